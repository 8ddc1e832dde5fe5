/- slices.Insert: what the machine says of it is what the model makes. Conditions: none. -/
import Derived.Test.YtgfeimceppggcaaGreatDoorRun
import Derived.Shelf.RegionOpenPlain
import Derived.WalkKit
import Derived.Lib.Walk
import Derived.Lib.SliceRun
import Derived.Lib.AppendZeros
import Derived.Lib.AppendZerosOnto
import Derived.Lib.Overlaps
import Derived.Laws.Externs
import Derived.Laws.NewBlocks
import Derived.Laws.IdiomCopy
set_option linter.unusedVariables false
set_option linter.unusedSimpArgs false
set_option linter.defProp false
set_option linter.unnecessarySimpa false
namespace Go.Ab
open Go.RowKit Go.Lib Go.Shelf Go.Proofs
def Ke (tS tE tI tB tU:TypeId) (fO fR:FuncId):Code:=
 (Code.seq (Code.region 0 #[(Oper.mk (some 6) (Op.assign (Operand.const (Value.slice none 0 0))) tS "slices.go:136" #[] none)] false) (Code.seq (Code.region 1 #[(Oper.mk (some 10) (Op.move (Operand.tmp 0)) tS "slices.go:137" #[] none),(Oper.mk (some 11) (Op.move (Operand.tmp 1)) tI "slices.go:137" #[] none),(Oper.mk (some 12) (Op.slice tS (Operand.tmp 10) (some (Operand.tmp 11)) none none) tS "slices.go:137" #[(Edge.mk 0 Ground.data),(Edge.mk 1 Ground.data)] none)] false) (Code.seq (Code.region 2 #[(Oper.mk (some 13) (Op.move (Operand.tmp 2)) tS "slices.go:139" #[] none),(Oper.mk (some 14) (Op.call (Call.mk (Callee.builtin Builtin.len) #[(Operand.tmp 13)] #[tS])) tI "slices.go:139" #[(Edge.mk 0 Ground.data)] none),(Oper.mk (some 7) (Op.assign (Operand.tmp 14)) tI "slices.go:139" #[(Edge.mk 1 Ground.data),(Edge.mk 0 Ground.phase),(Edge.mk 1 Ground.phase)] none)] false) (Code.seq (Code.seq (Code.region 3 #[(Oper.mk (some 15) (Op.move (Operand.tmp 7)) tI "slices.go:140" #[] none),(Oper.mk (some 16) (Op.binOp BinOp.eql tI (Operand.tmp 15) (Operand.const (Value.int IntKind.i64 0)) tI) tB "slices.go:140" #[(Edge.mk 0 Ground.data)] none)] false) (Code.cond (Operand.tmp 16) (Code.seq (Code.region 4 #[(Oper.mk (some 17) (Op.move (Operand.tmp 0)) tS "slices.go:141" #[] none),(Oper.mk (some 6) (Op.assign (Operand.tmp 17)) tS "slices.go:141" #[(Edge.mk 0 Ground.data),(Edge.mk 0 Ground.phase)] none)] false) Code.ret) Code.skip)) (Code.seq (Code.region 5 #[(Oper.mk (some 18) (Op.move (Operand.tmp 0)) tS "slices.go:143" #[] none),(Oper.mk (some 19) (Op.call (Call.mk (Callee.builtin Builtin.len) #[(Operand.tmp 18)] #[tS])) tI "slices.go:143" #[(Edge.mk 0 Ground.data)] none),(Oper.mk (some 8) (Op.assign (Operand.tmp 19)) tI "slices.go:143" #[(Edge.mk 1 Ground.data),(Edge.mk 0 Ground.phase),(Edge.mk 1 Ground.phase)] none)] false) (Code.seq (Code.seq (Code.region 6 #[(Oper.mk (some 20) (Op.move (Operand.tmp 1)) tI "slices.go:144" #[] none),(Oper.mk (some 21) (Op.move (Operand.tmp 8)) tI "slices.go:144" #[] none),(Oper.mk (some 22) (Op.binOp BinOp.eql tI (Operand.tmp 20) (Operand.tmp 21) tI) tB "slices.go:144" #[(Edge.mk 0 Ground.data),(Edge.mk 1 Ground.data)] none)] false) (Code.cond (Operand.tmp 22) (Code.seq (Code.region 7 #[(Oper.mk (some 23) (Op.move (Operand.tmp 0)) tS "slices.go:145" #[] none),(Oper.mk (some 24) (Op.move (Operand.tmp 2)) tS "slices.go:145" #[] none),(Oper.mk (some 25) (Op.call (Call.mk (Callee.builtin Builtin.append) #[(Operand.tmp 23),(Operand.tmp 24)] #[tS,tS])) tS "slices.go:145" #[(Edge.mk 0 Ground.data),(Edge.mk 1 Ground.data)] none),(Oper.mk (some 6) (Op.assign (Operand.tmp 25)) tS "slices.go:145" #[(Edge.mk 2 Ground.data),(Edge.mk 2 Ground.chain),(Edge.mk 0 Ground.phase),(Edge.mk 1 Ground.phase),(Edge.mk 2 Ground.phase)] none)] false) Code.ret) Code.skip)) (Code.seq (Code.seq (Code.region 8 #[(Oper.mk (some 26) (Op.move (Operand.tmp 8)) tI "slices.go:147" #[] none),(Oper.mk (some 27) (Op.move (Operand.tmp 7)) tI "slices.go:147" #[] none),(Oper.mk (some 28) (Op.binOp BinOp.add tI (Operand.tmp 26) (Operand.tmp 27) tI) tI "slices.go:147" #[(Edge.mk 0 Ground.data),(Edge.mk 1 Ground.data)] none),(Oper.mk (some 29) (Op.move (Operand.tmp 0)) tS "slices.go:147" #[] none),(Oper.mk (some 30) (Op.call (Call.mk (Callee.builtin Builtin.cap) #[(Operand.tmp 29)] #[tS])) tI "slices.go:147" #[(Edge.mk 3 Ground.data)] none),(Oper.mk (some 31) (Op.binOp BinOp.gtr tI (Operand.tmp 28) (Operand.tmp 30) tI) tB "slices.go:147" #[(Edge.mk 2 Ground.data),(Edge.mk 4 Ground.data)] none)] false) (Code.cond (Operand.tmp 31) (Code.seq (Code.region 9 #[(Oper.mk (some 32) (Op.move (Operand.tmp 0)) tS "slices.go:152" #[] none),(Oper.mk (some 33) (Op.move (Operand.tmp 1)) tI "slices.go:152" #[] none),(Oper.mk (some 34) (Op.slice tS (Operand.tmp 32) none (some (Operand.tmp 33)) none) tS "slices.go:152" #[(Edge.mk 0 Ground.data),(Edge.mk 1 Ground.data)] none),(Oper.mk (some 35) (Op.move (Operand.tmp 8)) tI "slices.go:152" #[] none),(Oper.mk (some 36) (Op.move (Operand.tmp 7)) tI "slices.go:152" #[] none),(Oper.mk (some 37) (Op.binOp BinOp.add tI (Operand.tmp 35) (Operand.tmp 36) tI) tI "slices.go:152" #[(Edge.mk 3 Ground.data),(Edge.mk 4 Ground.data)] none),(Oper.mk (some 38) (Op.move (Operand.tmp 1)) tI "slices.go:152" #[] none),(Oper.mk (some 39) (Op.binOp BinOp.sub tI (Operand.tmp 37) (Operand.tmp 38) tI) tI "slices.go:152" #[(Edge.mk 5 Ground.data),(Edge.mk 6 Ground.data)] none),(Oper.mk (some 40) (Op.call (Call.mk (Callee.builtin Builtin.append) #[(Operand.tmp 34),(Operand.tmp 39)] #[tS,tI])) tS "slices.go:152" #[(Edge.mk 2 Ground.data),(Edge.mk 7 Ground.data)] none),(Oper.mk (some 9) (Op.assign (Operand.tmp 40)) tS "slices.go:152" #[(Edge.mk 8 Ground.data),(Edge.mk 8 Ground.chain),(Edge.mk 0 Ground.phase),(Edge.mk 1 Ground.phase),(Edge.mk 2 Ground.phase),(Edge.mk 3 Ground.phase),(Edge.mk 4 Ground.phase),(Edge.mk 5 Ground.phase),(Edge.mk 6 Ground.phase),(Edge.mk 7 Ground.phase),(Edge.mk 8 Ground.phase)] none)] false) (Code.seq (Code.region 10 #[(Oper.mk (some 41) (Op.move (Operand.tmp 9)) tS "slices.go:153" #[] none),(Oper.mk (some 42) (Op.move (Operand.tmp 1)) tI "slices.go:153" #[] none),(Oper.mk (some 43) (Op.slice tS (Operand.tmp 41) (some (Operand.tmp 42)) none none) tS "slices.go:153" #[(Edge.mk 0 Ground.data),(Edge.mk 1 Ground.data)] none),(Oper.mk (some 44) (Op.move (Operand.tmp 2)) tS "slices.go:153" #[] none),(Oper.mk (some 45) (Op.call (Call.mk (Callee.builtin Builtin.copy) #[(Operand.tmp 43),(Operand.tmp 44)] #[tS,tS])) tI "slices.go:153" #[(Edge.mk 2 Ground.data),(Edge.mk 3 Ground.data)] none)] false) (Code.seq (Code.region 11 #[(Oper.mk (some 46) (Op.move (Operand.tmp 9)) tS "slices.go:154" #[] none),(Oper.mk (some 47) (Op.move (Operand.tmp 1)) tI "slices.go:154" #[] none),(Oper.mk (some 48) (Op.move (Operand.tmp 7)) tI "slices.go:154" #[] none),(Oper.mk (some 49) (Op.binOp BinOp.add tI (Operand.tmp 47) (Operand.tmp 48) tI) tI "slices.go:154" #[(Edge.mk 1 Ground.data),(Edge.mk 2 Ground.data)] none),(Oper.mk (some 50) (Op.slice tS (Operand.tmp 46) (some (Operand.tmp 49)) none none) tS "slices.go:154" #[(Edge.mk 0 Ground.data),(Edge.mk 3 Ground.data)] none),(Oper.mk (some 51) (Op.move (Operand.tmp 0)) tS "slices.go:154" #[] none),(Oper.mk (some 52) (Op.move (Operand.tmp 1)) tI "slices.go:154" #[] none),(Oper.mk (some 53) (Op.slice tS (Operand.tmp 51) (some (Operand.tmp 52)) none none) tS "slices.go:154" #[(Edge.mk 5 Ground.data),(Edge.mk 6 Ground.data)] none),(Oper.mk (some 54) (Op.call (Call.mk (Callee.builtin Builtin.copy) #[(Operand.tmp 50),(Operand.tmp 53)] #[tS,tS])) tI "slices.go:154" #[(Edge.mk 4 Ground.data),(Edge.mk 7 Ground.data)] none)] true) (Code.seq (Code.region 12 #[(Oper.mk (some 55) (Op.move (Operand.tmp 9)) tS "slices.go:155" #[] none),(Oper.mk (some 6) (Op.assign (Operand.tmp 55)) tS "slices.go:155" #[(Edge.mk 0 Ground.data),(Edge.mk 0 Ground.phase)] none)] false) Code.ret)))) Code.skip)) (Code.seq (Code.region 13 #[(Oper.mk (some 56) (Op.move (Operand.tmp 0)) tS "slices.go:157" #[] none),(Oper.mk (some 57) (Op.move (Operand.tmp 8)) tI "slices.go:157" #[] none),(Oper.mk (some 58) (Op.move (Operand.tmp 7)) tI "slices.go:157" #[] none),(Oper.mk (some 59) (Op.binOp BinOp.add tI (Operand.tmp 57) (Operand.tmp 58) tI) tI "slices.go:157" #[(Edge.mk 1 Ground.data),(Edge.mk 2 Ground.data)] none),(Oper.mk (some 60) (Op.slice tS (Operand.tmp 56) none (some (Operand.tmp 59)) none) tS "slices.go:157" #[(Edge.mk 0 Ground.data),(Edge.mk 3 Ground.data)] none),(Oper.mk (some 0) (Op.assign (Operand.tmp 60)) tS "slices.go:157" #[(Edge.mk 4 Ground.data),(Edge.mk 0 Ground.phase),(Edge.mk 1 Ground.phase),(Edge.mk 2 Ground.phase),(Edge.mk 3 Ground.phase),(Edge.mk 4 Ground.phase)] none)] false) (Code.seq (Code.seq (Code.region 14 #[(Oper.mk (some 61) (Op.move (Operand.tmp 2)) tS "slices.go:173" #[] none),(Oper.mk (some 62) (Op.move (Operand.tmp 0)) tS "slices.go:173" #[] none),(Oper.mk (some 63) (Op.move (Operand.tmp 1)) tI "slices.go:173" #[] none),(Oper.mk (some 64) (Op.move (Operand.tmp 7)) tI "slices.go:173" #[] none),(Oper.mk (some 65) (Op.binOp BinOp.add tI (Operand.tmp 63) (Operand.tmp 64) tI) tI "slices.go:173" #[(Edge.mk 2 Ground.data),(Edge.mk 3 Ground.data)] none),(Oper.mk (some 66) (Op.slice tS (Operand.tmp 62) (some (Operand.tmp 65)) none none) tS "slices.go:173" #[(Edge.mk 1 Ground.data),(Edge.mk 4 Ground.data)] none),(Oper.mk (some 67) (Op.call (Call.mk (Callee.value (Operand.func fO)) #[(Operand.tmp 61),(Operand.tmp 66)] #[tS,tS])) tB "slices.go:173" #[(Edge.mk 0 Ground.data),(Edge.mk 5 Ground.data)] none),(Oper.mk (some 68) (Op.unOp UnOp.not tB (Operand.tmp 67)) tB "slices.go:173" #[(Edge.mk 6 Ground.data)] none)] false) (Code.cond (Operand.tmp 68) (Code.seq (Code.region 15 #[(Oper.mk (some 69) (Op.move (Operand.tmp 0)) tS "slices.go:178" #[] none),(Oper.mk (some 70) (Op.move (Operand.tmp 1)) tI "slices.go:178" #[] none),(Oper.mk (some 71) (Op.move (Operand.tmp 7)) tI "slices.go:178" #[] none),(Oper.mk (some 72) (Op.binOp BinOp.add tI (Operand.tmp 70) (Operand.tmp 71) tI) tI "slices.go:178" #[(Edge.mk 1 Ground.data),(Edge.mk 2 Ground.data)] none),(Oper.mk (some 73) (Op.slice tS (Operand.tmp 69) (some (Operand.tmp 72)) none none) tS "slices.go:178" #[(Edge.mk 0 Ground.data),(Edge.mk 3 Ground.data)] none),(Oper.mk (some 74) (Op.move (Operand.tmp 0)) tS "slices.go:178" #[] none),(Oper.mk (some 75) (Op.move (Operand.tmp 1)) tI "slices.go:178" #[] none),(Oper.mk (some 76) (Op.slice tS (Operand.tmp 74) (some (Operand.tmp 75)) none none) tS "slices.go:178" #[(Edge.mk 5 Ground.data),(Edge.mk 6 Ground.data)] none),(Oper.mk (some 77) (Op.call (Call.mk (Callee.builtin Builtin.copy) #[(Operand.tmp 73),(Operand.tmp 76)] #[tS,tS])) tI "slices.go:178" #[(Edge.mk 4 Ground.data),(Edge.mk 7 Ground.data)] none)] true) (Code.seq (Code.region 16 #[(Oper.mk (some 78) (Op.move (Operand.tmp 0)) tS "slices.go:186" #[] none),(Oper.mk (some 79) (Op.move (Operand.tmp 1)) tI "slices.go:186" #[] none),(Oper.mk (some 80) (Op.slice tS (Operand.tmp 78) (some (Operand.tmp 79)) none none) tS "slices.go:186" #[(Edge.mk 0 Ground.data),(Edge.mk 1 Ground.data)] none),(Oper.mk (some 81) (Op.move (Operand.tmp 2)) tS "slices.go:186" #[] none),(Oper.mk (some 82) (Op.call (Call.mk (Callee.builtin Builtin.copy) #[(Operand.tmp 80),(Operand.tmp 81)] #[tS,tS])) tI "slices.go:186" #[(Edge.mk 2 Ground.data),(Edge.mk 3 Ground.data)] none)] false) (Code.seq (Code.region 17 #[(Oper.mk (some 83) (Op.move (Operand.tmp 0)) tS "slices.go:193" #[] none),(Oper.mk (some 6) (Op.assign (Operand.tmp 83)) tS "slices.go:193" #[(Edge.mk 0 Ground.data),(Edge.mk 0 Ground.phase)] none)] false) Code.ret))) Code.skip)) (Code.seq (Code.region 18 #[(Oper.mk (some 84) (Op.move (Operand.tmp 0)) tS "slices.go:200" #[] none),(Oper.mk (some 85) (Op.move (Operand.tmp 8)) tI "slices.go:200" #[] none),(Oper.mk (some 86) (Op.slice tS (Operand.tmp 84) (some (Operand.tmp 85)) none none) tS "slices.go:200" #[(Edge.mk 0 Ground.data),(Edge.mk 1 Ground.data)] none),(Oper.mk (some 87) (Op.move (Operand.tmp 2)) tS "slices.go:200" #[] none),(Oper.mk (some 88) (Op.call (Call.mk (Callee.builtin Builtin.copy) #[(Operand.tmp 86),(Operand.tmp 87)] #[tS,tS])) tI "slices.go:200" #[(Edge.mk 2 Ground.data),(Edge.mk 3 Ground.data)] none)] false) (Code.seq (Code.region 19 #[(Oper.mk (some 89) (Op.move (Operand.tmp 0)) tS "slices.go:207" #[] none),(Oper.mk (some 90) (Op.move (Operand.tmp 1)) tI "slices.go:207" #[] none),(Oper.mk (some 91) (Op.slice tS (Operand.tmp 89) (some (Operand.tmp 90)) none none) tS "slices.go:207" #[(Edge.mk 0 Ground.data),(Edge.mk 1 Ground.data)] none),(Oper.mk (some 92) (Op.move (Operand.tmp 7)) tI "slices.go:207" #[] none),(Oper.mk (some 93) (Op.call (Call.mk (Callee.value (Operand.func fR)) #[(Operand.tmp 91),(Operand.tmp 92)] #[tS,tI])) tU "slices.go:207" #[(Edge.mk 2 Ground.data),(Edge.mk 3 Ground.data)] none)] false) (Code.seq (Code.region 20 #[(Oper.mk (some 94) (Op.move (Operand.tmp 0)) tS "slices.go:214" #[] none),(Oper.mk (some 6) (Op.assign (Operand.tmp 94)) tS "slices.go:214" #[(Edge.mk 0 Ground.data),(Edge.mk 0 Ground.phase)] none)] false) Code.ret))))))))))))
def ZW (tS tE tI tB tU:TypeId) (fO fR:FuncId):Func:=
 Func.mk "slices.Insert[[]introit/api.Member,introit/api.Member]" "slices.Insert" #[tS,tE] #[tS,tI,tS] #[tS] 0 95 #[ResultVar.tmp 6] (some (Ke tS tE tI tB tU fO fR))
  false false "slices/slices.go" 215 none [Departure.appendOfMake] (List.toArray ["s","i","v","s","i","v","","m","n","s2","","","","","","","","","","","","","","","","","","","","","","","","","","","","","","","","","","","","","","","","","","","","","","","","","","","","","","","","","","","","","","","","","","","","","","","","","","","","","","","","","","","","",""])
def ovFn (tS tE tB:TypeId):Func:=
 Func.mk "slices.overlaps[introit/api.Member]" "slices.overlaps" #[tE] #[tS,tS] #[tB] 0 2 #[] none false false "slices/slices.go" 0 none [] #[]
theorem EL (tS tE tI tB tU:TypeId) (fO fR:FuncId):(ZW tS tE tI tB tU fO fR).ntmps=95:=rfl
structure InsAt (P:Program) (f:FuncId) (tS tE tI tB tU:TypeId) (fO fR:FuncId) (z:Value):Prop where
 hf:P.funcs[f]? =some (ZW tS tE tI tB tU fO fR)
 fo:P.funcs[fO]? =some (ovFn tS tE tB)
 uS:P.underlying tS=some (.slice tE)
 uI:P.underlying tI=some (.int .i64)
 uB:P.underlying tB=some .bool
 info:(P.info? tE).map (fun i=>(i.zero,i.size,i.bytes))=some (some z,6,96)
 zs:z.cells.size=6
 mixed:P.follows .mixedOrders=true
end Go.Ab
namespace Go.Ab
open Go.RowKit Go.Lib Go.Shelf Go.Proofs
set_option maxHeartbeats 4000000 in
set_option maxRecDepth 100000 in
theorem ins_end {P:Program} {f:FuncId} {tS tE tI tB tU:TypeId} {fO fR:FuncId} {z:Value} (L:InsAt P f tS tE tI tB tU fO fR z)
  {w:World} (base yb:Option Addr) (n c m vc:Nat) (hm:0 < m) (hnc:n<=c) (M6:base=none->n=0/\c=0) (hc63:n<=9223372036854775807) (cv:Value) (w':World)
  (dH: ∀ty,(Builtin.append_ #[tS,tS] ty #[.slice base n c, .slice yb m vc]).run P w= .ok cv w') :
  Calls P f #[.slice base n c, .int .i64 n, .slice yb m vc] w fun e w''=>e= .returned cv/\w''=w':=by
 have uS:=L.uS; have uI:=L.uI; have uB:=L.uB
 have rS:=run_underlying L.uS; have rI:=run_underlying L.uI; have rB:=run_underlying L.uB
 have mixed:=L.mixed
 obtain ⟨i0,Og,hz0,WW,hzb⟩:=info_parts L.info
 have Ob: ¬((m:Int)=0):=by omega
 have z9: ∀w,(Go.sizeOf tE).run P w= .ok 6 w:=fun w=>by simp [Go.sizeOf,typeInfo,Og,WW]
 have v9:(P.info? tE).map (·.size)=some 6:=by rw [Og]; simp [WW]
 go_enter L.hf,EL tS tE tI tB tU fO fR
 unfold Ke
 cases base with
 | none=>
  obtain ⟨h0,kU⟩:=M6 rfl
  subst h0 kU
  go_wp2_with (at_builtin; refine Lib.wpList_append_run _ rfl _ _ _ _ rfl _ _ rfl rfl _ _ (dH _) ?_)
  go_ret
  exact ⟨rfl,rfl⟩
 | some a=>
  obtain ⟨ab,ao,asp⟩:=a
  go_wp2_with (at_builtin; refine Lib.wpList_append_run _ rfl _ _ _ _ rfl _ _ rfl rfl _ _ (dH _) ?_)
  all_goals (go_ret; exact ⟨rfl,rfl⟩)
section
variable {P:Program} {fm:Nat->aD} {w:World} {X:Nat->Prop} {μ:Mu} {σ σ':ag}
def PW (fm:Nat->aD) (w:World) (X:Nat->Prop) (μ:Mu) (l:ai) (vs:List Value):Prop:=l.length=vs.length/\∀j,RV fm w X μ (l.getD j .undef) (vs.getD j Go.undef)
theorem PW.append {l m:ai} {vs us:List Value} (h:PW fm w X μ l vs) (k:PW fm w X μ m us):PW fm w X μ (l ++m) (vs ++us):=by
 refine ⟨by simp [h.1,k.1],fun j=> ?_⟩
 simp only [a9,List.getElem?_append]
 by_cases hj:j < l.length
 ·rw [if_pos hj,if_pos (by rw [←h.1]; exact hj)]; exact by simpa [a9] using h.2 j
 ·rw [if_neg hj,if_neg (by rw [←h.1]; exact hj),h.1]; simpa [a9] using k.2 (j - vs.length)
theorem PW.row {cs:ai} {arr:Array Value} {base:Nat} (hl:base+cs.length<=arr.size) (h: ∀j,j < cs.length->RV fm w X μ (cs.getD j .undef) (arr.getD (base+j) Go.undef)) (off k:Nat) (hk:off+k<=cs.length) :
  PW fm w X μ ((cs.drop off).take k) ((arr.toList.drop (base+off)).take k):=by
 refine ⟨by simp; omega,fun j=> ?_⟩
 simp only [a9,List.getElem?_take,List.getElem?_drop]
 by_cases hj:j < k
 ·rw [if_pos hj,if_pos hj]
  have:=h (off+j) aa
  simpa [a9,Array.getD_eq_getD_getElem?,Nat.add_assoc] using this
 ·rw [if_neg hj,if_neg hj]; exact .undef _
theorem PW.bel {w':World} {l:ai} {vs:List Value} (h:PW fm w X μ l vs) (hb:Below w.heap.size w w'):PW fm w' X μ l vs:=⟨h.1,fun j=>(h.2 j).bel hb⟩
theorem PW.ext {w':World} {μ':Mu} {l:ai} {vs:List Value} (h:PW fm w X μ l vs) (hb:Ext w μ w' μ'):PW fm w' X μ' l vs:=⟨h.1,fun j=>(h.2 j).ext hb⟩
theorem PW.one {l:ai} {vs:List Value} (h:PW fm w X μ l vs) (h1:l.all AV.one=true): ∀v∈vs,v.oneCell'=true:=s6 h.1 h.2 h1
end
end Go.Ab
