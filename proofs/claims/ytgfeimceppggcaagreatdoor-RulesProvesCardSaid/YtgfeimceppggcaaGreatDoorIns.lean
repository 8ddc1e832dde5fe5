/- slices.Insert: what the machine says of it is what the model makes. Conditions: none. -/
import Derived.Test.YtgfeimceppggcaaGreatDoorRun
import Derived.Shelf.RegionOpenPlain
import Derived.WalkKit
import Derived.Lib.Walk
import Derived.Lib.SliceRun
import Derived.Lib.AppendZeros
import Derived.Lib.AppendZerosOnto
import Derived.Lib.Overlaps
import Derived.Laws.Externs
import Derived.Laws.NewBlocks
import Derived.Laws.IdiomCopy
set_option linter.unusedVariables false
set_option linter.unusedSimpArgs false
set_option linter.defProp false
set_option linter.unnecessarySimpa false
namespace Go.Ab
open Go.RowKit Go.Lib Go.Shelf Go.Proofs
def xt (tS tE tI tB tU:TypeId) (fO fR:FuncId):Code:=
 (Code.seq (Code.region 0 #[(Oper.mk (some 6) (Op.assign (Operand.const (Value.slice none 0 0))) tS "slices.go:136" #[] none)] false) (Code.seq (Code.region 1 #[(Oper.mk (some 10) (Op.move (Operand.tmp 0)) tS "slices.go:137" #[] none),(Oper.mk (some 11) (Op.move (Operand.tmp 1)) tI "slices.go:137" #[] none),(Oper.mk (some 12) (Op.slice tS (Operand.tmp 10) (some (Operand.tmp 11)) none none) tS "slices.go:137" #[(Edge.mk 0 Ground.data),(Edge.mk 1 Ground.data)] none)] false) (Code.seq (Code.region 2 #[(Oper.mk (some 13) (Op.move (Operand.tmp 2)) tS "slices.go:139" #[] none),(Oper.mk (some 14) (Op.call (Call.mk (Callee.builtin Builtin.len) #[(Operand.tmp 13)] #[tS])) tI "slices.go:139" #[(Edge.mk 0 Ground.data)] none),(Oper.mk (some 7) (Op.assign (Operand.tmp 14)) tI "slices.go:139" #[(Edge.mk 1 Ground.data),(Edge.mk 0 Ground.phase),(Edge.mk 1 Ground.phase)] none)] false) (Code.seq (Code.seq (Code.region 3 #[(Oper.mk (some 15) (Op.move (Operand.tmp 7)) tI "slices.go:140" #[] none),(Oper.mk (some 16) (Op.binOp BinOp.eql tI (Operand.tmp 15) (Operand.const (Value.int IntKind.i64 0)) tI) tB "slices.go:140" #[(Edge.mk 0 Ground.data)] none)] false) (Code.cond (Operand.tmp 16) (Code.seq (Code.region 4 #[(Oper.mk (some 17) (Op.move (Operand.tmp 0)) tS "slices.go:141" #[] none),(Oper.mk (some 6) (Op.assign (Operand.tmp 17)) tS "slices.go:141" #[(Edge.mk 0 Ground.data),(Edge.mk 0 Ground.phase)] none)] false) Code.ret) Code.skip)) (Code.seq (Code.region 5 #[(Oper.mk (some 18) (Op.move (Operand.tmp 0)) tS "slices.go:143" #[] none),(Oper.mk (some 19) (Op.call (Call.mk (Callee.builtin Builtin.len) #[(Operand.tmp 18)] #[tS])) tI "slices.go:143" #[(Edge.mk 0 Ground.data)] none),(Oper.mk (some 8) (Op.assign (Operand.tmp 19)) tI "slices.go:143" #[(Edge.mk 1 Ground.data),(Edge.mk 0 Ground.phase),(Edge.mk 1 Ground.phase)] none)] false) (Code.seq (Code.seq (Code.region 6 #[(Oper.mk (some 20) (Op.move (Operand.tmp 1)) tI "slices.go:144" #[] none),(Oper.mk (some 21) (Op.move (Operand.tmp 8)) tI "slices.go:144" #[] none),(Oper.mk (some 22) (Op.binOp BinOp.eql tI (Operand.tmp 20) (Operand.tmp 21) tI) tB "slices.go:144" #[(Edge.mk 0 Ground.data),(Edge.mk 1 Ground.data)] none)] false) (Code.cond (Operand.tmp 22) (Code.seq (Code.region 7 #[(Oper.mk (some 23) (Op.move (Operand.tmp 0)) tS "slices.go:145" #[] none),(Oper.mk (some 24) (Op.move (Operand.tmp 2)) tS "slices.go:145" #[] none),(Oper.mk (some 25) (Op.call (Call.mk (Callee.builtin Builtin.append) #[(Operand.tmp 23),(Operand.tmp 24)] #[tS,tS])) tS "slices.go:145" #[(Edge.mk 0 Ground.data),(Edge.mk 1 Ground.data)] none),(Oper.mk (some 6) (Op.assign (Operand.tmp 25)) tS "slices.go:145" #[(Edge.mk 2 Ground.data),(Edge.mk 2 Ground.chain),(Edge.mk 0 Ground.phase),(Edge.mk 1 Ground.phase),(Edge.mk 2 Ground.phase)] none)] false) Code.ret) Code.skip)) (Code.seq (Code.seq (Code.region 8 #[(Oper.mk (some 26) (Op.move (Operand.tmp 8)) tI "slices.go:147" #[] none),(Oper.mk (some 27) (Op.move (Operand.tmp 7)) tI "slices.go:147" #[] none),(Oper.mk (some 28) (Op.binOp BinOp.add tI (Operand.tmp 26) (Operand.tmp 27) tI) tI "slices.go:147" #[(Edge.mk 0 Ground.data),(Edge.mk 1 Ground.data)] none),(Oper.mk (some 29) (Op.move (Operand.tmp 0)) tS "slices.go:147" #[] none),(Oper.mk (some 30) (Op.call (Call.mk (Callee.builtin Builtin.cap) #[(Operand.tmp 29)] #[tS])) tI "slices.go:147" #[(Edge.mk 3 Ground.data)] none),(Oper.mk (some 31) (Op.binOp BinOp.gtr tI (Operand.tmp 28) (Operand.tmp 30) tI) tB "slices.go:147" #[(Edge.mk 2 Ground.data),(Edge.mk 4 Ground.data)] none)] false) (Code.cond (Operand.tmp 31) (Code.seq (Code.region 9 #[(Oper.mk (some 32) (Op.move (Operand.tmp 0)) tS "slices.go:152" #[] none),(Oper.mk (some 33) (Op.move (Operand.tmp 1)) tI "slices.go:152" #[] none),(Oper.mk (some 34) (Op.slice tS (Operand.tmp 32) none (some (Operand.tmp 33)) none) tS "slices.go:152" #[(Edge.mk 0 Ground.data),(Edge.mk 1 Ground.data)] none),(Oper.mk (some 35) (Op.move (Operand.tmp 8)) tI "slices.go:152" #[] none),(Oper.mk (some 36) (Op.move (Operand.tmp 7)) tI "slices.go:152" #[] none),(Oper.mk (some 37) (Op.binOp BinOp.add tI (Operand.tmp 35) (Operand.tmp 36) tI) tI "slices.go:152" #[(Edge.mk 3 Ground.data),(Edge.mk 4 Ground.data)] none),(Oper.mk (some 38) (Op.move (Operand.tmp 1)) tI "slices.go:152" #[] none),(Oper.mk (some 39) (Op.binOp BinOp.sub tI (Operand.tmp 37) (Operand.tmp 38) tI) tI "slices.go:152" #[(Edge.mk 5 Ground.data),(Edge.mk 6 Ground.data)] none),(Oper.mk (some 40) (Op.call (Call.mk (Callee.builtin Builtin.append) #[(Operand.tmp 34),(Operand.tmp 39)] #[tS,tI])) tS "slices.go:152" #[(Edge.mk 2 Ground.data),(Edge.mk 7 Ground.data)] none),(Oper.mk (some 9) (Op.assign (Operand.tmp 40)) tS "slices.go:152" #[(Edge.mk 8 Ground.data),(Edge.mk 8 Ground.chain),(Edge.mk 0 Ground.phase),(Edge.mk 1 Ground.phase),(Edge.mk 2 Ground.phase),(Edge.mk 3 Ground.phase),(Edge.mk 4 Ground.phase),(Edge.mk 5 Ground.phase),(Edge.mk 6 Ground.phase),(Edge.mk 7 Ground.phase),(Edge.mk 8 Ground.phase)] none)] false) (Code.seq (Code.region 10 #[(Oper.mk (some 41) (Op.move (Operand.tmp 9)) tS "slices.go:153" #[] none),(Oper.mk (some 42) (Op.move (Operand.tmp 1)) tI "slices.go:153" #[] none),(Oper.mk (some 43) (Op.slice tS (Operand.tmp 41) (some (Operand.tmp 42)) none none) tS "slices.go:153" #[(Edge.mk 0 Ground.data),(Edge.mk 1 Ground.data)] none),(Oper.mk (some 44) (Op.move (Operand.tmp 2)) tS "slices.go:153" #[] none),(Oper.mk (some 45) (Op.call (Call.mk (Callee.builtin Builtin.copy) #[(Operand.tmp 43),(Operand.tmp 44)] #[tS,tS])) tI "slices.go:153" #[(Edge.mk 2 Ground.data),(Edge.mk 3 Ground.data)] none)] false) (Code.seq (Code.region 11 #[(Oper.mk (some 46) (Op.move (Operand.tmp 9)) tS "slices.go:154" #[] none),(Oper.mk (some 47) (Op.move (Operand.tmp 1)) tI "slices.go:154" #[] none),(Oper.mk (some 48) (Op.move (Operand.tmp 7)) tI "slices.go:154" #[] none),(Oper.mk (some 49) (Op.binOp BinOp.add tI (Operand.tmp 47) (Operand.tmp 48) tI) tI "slices.go:154" #[(Edge.mk 1 Ground.data),(Edge.mk 2 Ground.data)] none),(Oper.mk (some 50) (Op.slice tS (Operand.tmp 46) (some (Operand.tmp 49)) none none) tS "slices.go:154" #[(Edge.mk 0 Ground.data),(Edge.mk 3 Ground.data)] none),(Oper.mk (some 51) (Op.move (Operand.tmp 0)) tS "slices.go:154" #[] none),(Oper.mk (some 52) (Op.move (Operand.tmp 1)) tI "slices.go:154" #[] none),(Oper.mk (some 53) (Op.slice tS (Operand.tmp 51) (some (Operand.tmp 52)) none none) tS "slices.go:154" #[(Edge.mk 5 Ground.data),(Edge.mk 6 Ground.data)] none),(Oper.mk (some 54) (Op.call (Call.mk (Callee.builtin Builtin.copy) #[(Operand.tmp 50),(Operand.tmp 53)] #[tS,tS])) tI "slices.go:154" #[(Edge.mk 4 Ground.data),(Edge.mk 7 Ground.data)] none)] true) (Code.seq (Code.region 12 #[(Oper.mk (some 55) (Op.move (Operand.tmp 9)) tS "slices.go:155" #[] none),(Oper.mk (some 6) (Op.assign (Operand.tmp 55)) tS "slices.go:155" #[(Edge.mk 0 Ground.data),(Edge.mk 0 Ground.phase)] none)] false) Code.ret)))) Code.skip)) (Code.seq (Code.region 13 #[(Oper.mk (some 56) (Op.move (Operand.tmp 0)) tS "slices.go:157" #[] none),(Oper.mk (some 57) (Op.move (Operand.tmp 8)) tI "slices.go:157" #[] none),(Oper.mk (some 58) (Op.move (Operand.tmp 7)) tI "slices.go:157" #[] none),(Oper.mk (some 59) (Op.binOp BinOp.add tI (Operand.tmp 57) (Operand.tmp 58) tI) tI "slices.go:157" #[(Edge.mk 1 Ground.data),(Edge.mk 2 Ground.data)] none),(Oper.mk (some 60) (Op.slice tS (Operand.tmp 56) none (some (Operand.tmp 59)) none) tS "slices.go:157" #[(Edge.mk 0 Ground.data),(Edge.mk 3 Ground.data)] none),(Oper.mk (some 0) (Op.assign (Operand.tmp 60)) tS "slices.go:157" #[(Edge.mk 4 Ground.data),(Edge.mk 0 Ground.phase),(Edge.mk 1 Ground.phase),(Edge.mk 2 Ground.phase),(Edge.mk 3 Ground.phase),(Edge.mk 4 Ground.phase)] none)] false) (Code.seq (Code.seq (Code.region 14 #[(Oper.mk (some 61) (Op.move (Operand.tmp 2)) tS "slices.go:173" #[] none),(Oper.mk (some 62) (Op.move (Operand.tmp 0)) tS "slices.go:173" #[] none),(Oper.mk (some 63) (Op.move (Operand.tmp 1)) tI "slices.go:173" #[] none),(Oper.mk (some 64) (Op.move (Operand.tmp 7)) tI "slices.go:173" #[] none),(Oper.mk (some 65) (Op.binOp BinOp.add tI (Operand.tmp 63) (Operand.tmp 64) tI) tI "slices.go:173" #[(Edge.mk 2 Ground.data),(Edge.mk 3 Ground.data)] none),(Oper.mk (some 66) (Op.slice tS (Operand.tmp 62) (some (Operand.tmp 65)) none none) tS "slices.go:173" #[(Edge.mk 1 Ground.data),(Edge.mk 4 Ground.data)] none),(Oper.mk (some 67) (Op.call (Call.mk (Callee.value (Operand.func fO)) #[(Operand.tmp 61),(Operand.tmp 66)] #[tS,tS])) tB "slices.go:173" #[(Edge.mk 0 Ground.data),(Edge.mk 5 Ground.data)] none),(Oper.mk (some 68) (Op.unOp UnOp.not tB (Operand.tmp 67)) tB "slices.go:173" #[(Edge.mk 6 Ground.data)] none)] false) (Code.cond (Operand.tmp 68) (Code.seq (Code.region 15 #[(Oper.mk (some 69) (Op.move (Operand.tmp 0)) tS "slices.go:178" #[] none),(Oper.mk (some 70) (Op.move (Operand.tmp 1)) tI "slices.go:178" #[] none),(Oper.mk (some 71) (Op.move (Operand.tmp 7)) tI "slices.go:178" #[] none),(Oper.mk (some 72) (Op.binOp BinOp.add tI (Operand.tmp 70) (Operand.tmp 71) tI) tI "slices.go:178" #[(Edge.mk 1 Ground.data),(Edge.mk 2 Ground.data)] none),(Oper.mk (some 73) (Op.slice tS (Operand.tmp 69) (some (Operand.tmp 72)) none none) tS "slices.go:178" #[(Edge.mk 0 Ground.data),(Edge.mk 3 Ground.data)] none),(Oper.mk (some 74) (Op.move (Operand.tmp 0)) tS "slices.go:178" #[] none),(Oper.mk (some 75) (Op.move (Operand.tmp 1)) tI "slices.go:178" #[] none),(Oper.mk (some 76) (Op.slice tS (Operand.tmp 74) (some (Operand.tmp 75)) none none) tS "slices.go:178" #[(Edge.mk 5 Ground.data),(Edge.mk 6 Ground.data)] none),(Oper.mk (some 77) (Op.call (Call.mk (Callee.builtin Builtin.copy) #[(Operand.tmp 73),(Operand.tmp 76)] #[tS,tS])) tI "slices.go:178" #[(Edge.mk 4 Ground.data),(Edge.mk 7 Ground.data)] none)] true) (Code.seq (Code.region 16 #[(Oper.mk (some 78) (Op.move (Operand.tmp 0)) tS "slices.go:186" #[] none),(Oper.mk (some 79) (Op.move (Operand.tmp 1)) tI "slices.go:186" #[] none),(Oper.mk (some 80) (Op.slice tS (Operand.tmp 78) (some (Operand.tmp 79)) none none) tS "slices.go:186" #[(Edge.mk 0 Ground.data),(Edge.mk 1 Ground.data)] none),(Oper.mk (some 81) (Op.move (Operand.tmp 2)) tS "slices.go:186" #[] none),(Oper.mk (some 82) (Op.call (Call.mk (Callee.builtin Builtin.copy) #[(Operand.tmp 80),(Operand.tmp 81)] #[tS,tS])) tI "slices.go:186" #[(Edge.mk 2 Ground.data),(Edge.mk 3 Ground.data)] none)] false) (Code.seq (Code.region 17 #[(Oper.mk (some 83) (Op.move (Operand.tmp 0)) tS "slices.go:193" #[] none),(Oper.mk (some 6) (Op.assign (Operand.tmp 83)) tS "slices.go:193" #[(Edge.mk 0 Ground.data),(Edge.mk 0 Ground.phase)] none)] false) Code.ret))) Code.skip)) (Code.seq (Code.region 18 #[(Oper.mk (some 84) (Op.move (Operand.tmp 0)) tS "slices.go:200" #[] none),(Oper.mk (some 85) (Op.move (Operand.tmp 8)) tI "slices.go:200" #[] none),(Oper.mk (some 86) (Op.slice tS (Operand.tmp 84) (some (Operand.tmp 85)) none none) tS "slices.go:200" #[(Edge.mk 0 Ground.data),(Edge.mk 1 Ground.data)] none),(Oper.mk (some 87) (Op.move (Operand.tmp 2)) tS "slices.go:200" #[] none),(Oper.mk (some 88) (Op.call (Call.mk (Callee.builtin Builtin.copy) #[(Operand.tmp 86),(Operand.tmp 87)] #[tS,tS])) tI "slices.go:200" #[(Edge.mk 2 Ground.data),(Edge.mk 3 Ground.data)] none)] false) (Code.seq (Code.region 19 #[(Oper.mk (some 89) (Op.move (Operand.tmp 0)) tS "slices.go:207" #[] none),(Oper.mk (some 90) (Op.move (Operand.tmp 1)) tI "slices.go:207" #[] none),(Oper.mk (some 91) (Op.slice tS (Operand.tmp 89) (some (Operand.tmp 90)) none none) tS "slices.go:207" #[(Edge.mk 0 Ground.data),(Edge.mk 1 Ground.data)] none),(Oper.mk (some 92) (Op.move (Operand.tmp 7)) tI "slices.go:207" #[] none),(Oper.mk (some 93) (Op.call (Call.mk (Callee.value (Operand.func fR)) #[(Operand.tmp 91),(Operand.tmp 92)] #[tS,tI])) tU "slices.go:207" #[(Edge.mk 2 Ground.data),(Edge.mk 3 Ground.data)] none)] false) (Code.seq (Code.region 20 #[(Oper.mk (some 94) (Op.move (Operand.tmp 0)) tS "slices.go:214" #[] none),(Oper.mk (some 6) (Op.assign (Operand.tmp 94)) tS "slices.go:214" #[(Edge.mk 0 Ground.data),(Edge.mk 0 Ground.phase)] none)] false) Code.ret))))))))))))
def insFn (tS tE tI tB tU:TypeId) (fO fR:FuncId):Func:=
 Func.mk "slices.Insert[[]introit/api.Member,introit/api.Member]" "slices.Insert" #[tS,tE] #[tS,tI,tS] #[tS] 0 95 #[ResultVar.tmp 6] (some (xt tS tE tI tB tU fO fR))
  false false "slices/slices.go" 215 none [Departure.appendOfMake] (List.toArray ["s","i","v","s","i","v","","m","n","s2","","","","","","","","","","","","","","","","","","","","","","","","","","","","","","","","","","","","","","","","","","","","","","","","","","","","","","","","","","","","","","","","","","","","","","","","","","","","","","","","","","","","",""])
def ovFn (tS tE tB:TypeId):Func:=
 Func.mk "slices.overlaps[introit/api.Member]" "slices.overlaps" #[tE] #[tS,tS] #[tB] 0 2 #[] none false false "slices/slices.go" 0 none [] #[]
theorem qc (tS tE tI tB tU:TypeId) (fO fR:FuncId):(insFn tS tE tI tB tU fO fR).ntmps=95:=rfl
structure HZ (P:Program) (f:FuncId) (tS tE tI tB tU:TypeId) (fO fR:FuncId) (z:Value):Prop where
 hf:P.funcs[f]? =some (insFn tS tE tI tB tU fO fR)
 fo:P.funcs[fO]? =some (ovFn tS tE tB)
 uS:P.underlying tS=some (.slice tE)
 uI:P.underlying tI=some (.int .i64)
 uB:P.underlying tB=some .bool
 info:(P.info? tE).map (fun i=>(i.zero,i.size,i.bytes))=some (some z,6,96)
 zs:z.cells.size=6
 mixed:P.follows .mixedOrders=true
theorem kZ {P:Program} {w:World} {d s e ty:TypeId} {sz:Nat} (hu:P.underlying d=some (.slice e)) (hz:(sizeOf e).run P w= .ok sz w)
  {blk o dl dc sl sc:Nat} {src:Addr} {arr:Array Value} {t:TypeId} (gz:w.heap[blk]? =some (.cells arr t (0,0))) {cs:List Value} (hl:cs.length=(Nat.min sl dl)*sz)
  (hc: ∀j v,cs[j]? =some v->w.cell? (src.add j)=some v) (h1: ∀v∈cs,v.oneCell'=true) (hr:o+cs.length<=arr.size) :
  (Builtin.copy_ #[d,s] ty #[.slice (some ⟨blk,o,none⟩) dl dc, .slice (some src) sl sc]).run P w=
   .ok (goInt (Nat.min sl dl)) (w.setRow blk (arr.toList.take o ++cs ++arr.toList.drop (o+cs.length)).toArray):=by
 have hfc:=run_firstCells_some (P:=P) (w:=w) sz (Nat.min sl dl) src sl sc cs hl hc
 have sF:=run_storeCells_at (P:=P) blk o t cs 0 arr w gz aa h1
 simp only [Nat.add_zero] at sF
 simp [Builtin.copy_,run_underlying hu,hz,Builtin.lenOf,hfc,sF]
theorem QH {P:Program} (w:World) {ops:Array Oper} {rest:List Oper} {o:Oper} {a:Act} {Q:Exit->Act->World->Prop} (AJ:o.guard=none) (d s:Operand) (t t':TypeId)
  (ho:o.op= .call { callee:= .builtin .copy,args:=#[d,s],argTypes:=#[t,t'] }) (v u:Value) (hd:a.eval d=v) (hs:a.eval s=u) {v':Value} {w':World}
  (hr:(Builtin.copy_ #[t,t'] o.type #[v,u]).run P w= .ok v' w') (h:wpList P ops Q rest (a.put o.dst v') w'):wpList P ops Q (o ::rest) a w:=
 wpList_plain AJ fun _ hK=>by
  unfold Oper.wp execOp
  simp only [ho,resolve,invoke,builtin,Sem.run_bind,Sem.run_pure,Result.andThen_ok,List.map_toArray,List.map_cons,List.map_nil,hd,hs,hr]
  exact hK _ _ h
theorem Lw {P:Program} {ops:Array Oper} {o:Oper} {a:Act} {w:World} {K:Act->World->Prop} {Q:Exit->Act->World->Prop} {E:Prop}
  (hg:o.guard=none) (d x:Operand) (dT sT:TypeId) (AY:o.op=Op.call { callee:=Callee.builtin Builtin.copy,args:=#[d,x],argTypes:=#[dT,sT] })
  (v u:Value) (hd:a.eval d=v) (hx:a.eval x=u) {v':Value} {w':World} (hr:(Builtin.copy_ #[dT,sT] o.type #[v,u]).run P w= .ok v' w') (hK:K (a.put o.dst v') w') :
  if Region.wanted o (yielded ops a.tmps)=true then Oper.wp P o a w K Q else E:=by
 have hw:Region.wanted o (yielded ops a.tmps)=true:=by simp [Region.wanted,hg]
 rw [if_pos hw]
 unfold Oper.wp
 simp [execOp,AY,resolve,invoke,builtin,hd,hx,hr,Result.andThen]
 exact hK
theorem qv {w:World} {b:Nat} {arr:Array Value} {t:TypeId} {fz:Nat×Nat} (h:w.heap[b]? =some (.cells arr t fz)) (k:Nat):w.cell? ⟨b,k,none⟩=arr[k]? :=by
 simp [World.cell?,h]
theorem Hj {w:World} {b:Nat} {arr:Array Value} {t:TypeId} (h:w.heap[b]? =some (.cells arr t (0,0))) (k:Nat):w.frozen? ⟨b,k,none⟩=false:=by
 simp [World.frozen?,h]
theorem Bh {w:World} {b:Nat} {arr:Array Value} {t:TypeId} {fz:Nat×Nat} (h:w.heap[b]? =some (.cells arr t fz)):w.shape? b=some (t,arr.size):=by
 simp [World.shape?,h]
set_option maxHeartbeats 4000000 in
set_option maxRecDepth 100000 in
theorem Pg {P:Program} {f:FuncId} {tS tE tI tB tU:TypeId} {fO fR:FuncId} {z:Value} (L:HZ P f tS tE tI tB tU fO fR z)
  {w:World} (b o n c i vb vo m vc:Nat) (arr EY:Array Value) (t tv:TypeId) (hi:i < n) (hm:0 < m) (tV:n+m<=c) (hc63:n+m<=9223372036854775807) (hvb:vb≠b)
  (gz:w.heap[b]? =some (.cells arr t (0,0))) (fb:o+c*6<=arr.size) (zA:w.heap[vb]? =some (.cells EY tv (0,0)))
  (ol vs:List Value) (Tl:ol.length=(n - i)*6) (Mw:vs.length=m*6) (hoc: ∀j v,ol[j]? =some v->arr[o+i*6+j]? =some v) (hvc: ∀j v,vs[j]? =some v->EY[vo+j]? =some v)
  (h1o: ∀v∈ol,v.oneCell'=true) (h1v: ∀v∈vs,v.oneCell'=true) (A1 A2:Array Value) (Wf:A1=(arr.toList.take (o+(i+m)*6) ++ol ++arr.toList.drop (o+(i+m)*6+ol.length)).toArray)
  (hA2:A2=(A1.toList.take (o+i*6) ++vs ++A1.toList.drop (o+i*6+vs.length)).toArray) :
  Calls P f #[.slice (some ⟨b,o,none⟩) n c, .int .i64 i, .slice (some ⟨vb,vo,none⟩) m vc] w fun e w'=>
   e= .returned (.slice (some ⟨b,o,none⟩) (n+m) c)/\w'=(w.drew.setRow b A1).setRow b A2:=by
 have uS:=L.uS; have uI:=L.uI; have uB:=L.uB
 have rS:=run_underlying L.uS; have rI:=run_underlying L.uI; have rB:=run_underlying L.uB
 have mixed:=L.mixed
 obtain ⟨i0,AI,hz0,C8,hzb⟩:=info_parts L.info
 have Ga: ¬((m:Int)=0):=by omega
 have BH: ¬((i:Int)=(n:Int)):=by omega
 have z9: ∀w,(Go.sizeOf tE).run P w= .ok 6 w:=fun w=>by simp [Go.sizeOf,typeInfo,AI,C8]
 have v9:(P.info? tE).map (·.size)=some 6:=by rw [AI]; simp [C8]
 have hov: ∀lb cb,(callFunc fO #[.slice (some ⟨vb,vo,none⟩) m vc, .slice (some ⟨b,o+(i+m)*6,none⟩) lb cb]).run P w= .ok (.value (.bool false)) w:=fun lb cb=>by
  rw [run_callFunc_extern L.fo (by kernel_rfl) (by kernel_rfl) (by kernel_rfl) (e:=Extern.SlicesOverlaps.overlaps #[tS,tS] #[tB]) (by kernel_rfl),
   Lib.run_overlaps_apart w tS tB tE uS 6 z9 ⟨vb,vo,none⟩ ⟨b,o+(i+m)*6,none⟩ m vc lb cb hvb tv t EY.size arr.size (Bh zA) (Bh gz) aa (Hj zA _) (Hj zA _)]
  rfl
 have uK:IntKind.i64.wrap ((i:Int)+(m:Int))=(i:Int)+(m:Int):=by rw [IntKind.wrap_i64]; omega
 have Dc:(0:Int)<=(i:Int)+(m:Int):=by omega
 have wV:i<=n:=by omega
 have htn:((i:Int)+(m:Int)).toNat=i+m:=by omega
 have ua: ¬(c=i+m):=by omega
 have JE:(i:Int)<=(n:Int)+(m:Int):=by omega
 have hb4: ¬(c=i):=by omega
 have hol':ol.length<=(n - i)*6:=by omega
 have hcp1: ∀ty dc sc,(Builtin.copy_ #[tS,tS] ty #[.slice (some ⟨b,o+(i+m)*6,none⟩) (n+m - (i+m)) dc, .slice (some ⟨b,o+i*6,none⟩) (n+m - i) sc]).run P w.drew= .ok (goInt (n - i:Nat)) (w.drew.setRow b A1):=fun ty dc sc=>by
  have vp:Nat.min (n+m - i) (n+m - (i+m))=n - i:=by simp only [Nat.min_def]; split <;> omega
  have:=kZ (P:=P) (w:=w.drew) (ty:=ty) (s:=tS) uS (z9 _) (blk:=b) (o:=o+(i+m)*6) (dl:=n+m - (i+m)) (dc:=dc) (sl:=n+m - i) (sc:=sc) (src:=⟨b,o+i*6,none⟩) (cs:=ol) gz (by rw [vp]; exact Tl)
   (fun j v hj=>by rw [Addr.add_lit]; exact (qv gz _).trans (hoc j v hj)) h1o aa
  rw [vp,←Wf] at this
  exact this
 have rF:A1.size=arr.size:=by rw [Wf]; simp; omega
 have hrow1: ∀W:World,W.heap=(w.drew.setRow b A1).heap->W.heap[b]? =some (.cells A1 t (0,0)):=fun W hW=>by rw [hW]; exact setRow_heap w.drew b arr A1 t (0,0) gz
 have hvrow1: ∀W:World,W.heap=(w.drew.setRow b A1).heap->W.heap[vb]? =some (.cells EY tv (0,0)):=fun W hW=>by rw [hW]; exact (setRow_other w.drew b vb A1 hvb).trans zA
 have hcp2: ∀(W:World),W.heap=(w.drew.setRow b A1).heap->∀ty dc,(Builtin.copy_ #[tS,tS] ty #[.slice (some ⟨b,o+i*6,none⟩) (n+m - i) dc, .slice (some ⟨vb,vo,none⟩) m vc]).run P W= .ok (goInt m) (W.setRow b A2):=fun W hW ty dc=>by
  have vp:Nat.min m (n+m - i)=m:=by simp only [Nat.min_def]; split <;> omega
  have:=kZ (P:=P) (w:=W) (ty:=ty) (s:=tS) uS (z9 _) (blk:=b) (o:=o+i*6) (dl:=n+m - i) (dc:=dc) (sl:=m) (sc:=vc) (src:=⟨vb,vo,none⟩) (cs:=vs) (hrow1 W hW) (by rw [vp]; exact Mw)
   (fun j v hj=>by rw [Addr.add_lit]; exact (qv (hvrow1 W hW) _).trans (hvc j v hj)) h1v (by rw [rF]; omega)
  rw [vp,←hA2] at this
  exact this
 clear Wf hA2 hoc hvc Tl Mw hol' rF
 go_enter L.hf,qc tS tE tI tB tU fO fR
 unfold xt
 go_wp2_with (simp only [hov])
 go_region_law_o (refine Lw rfl _ _ tS tS rfl _ _ (by simp [Act.eval,Act.put]) (by simp [Act.eval,Act.put]) (hcp1 _ _ _) ?_)
 go_wp2_with (at_builtin; refine QH _ rfl _ _ tS tS rfl _ _ rfl rfl (hcp2 _ rfl _ _) ?_)
 go_ret
 exact ⟨rfl,rfl⟩
set_option maxHeartbeats 4000000 in
set_option maxRecDepth 100000 in
theorem S9 {P:Program} {f:FuncId} {tS tE tI tB tU:TypeId} {fO fR:FuncId} {z:Value} (L:HZ P f tS tE tI tB tU fO fR z)
  {w:World} (b o n c i vb vo m vc:Nat) (arr EY:Array Value) (t tv:TypeId) (fz:Nat×Nat) (hi:i < n) (hm:0 < m) (hnc:n<=c) (tV:c < n+m) (Gt:(n+m)*96<=140737488355328)
  (gz:w.heap[b]? =some (.cells arr t fz)) (zA:w.heap[vb]? =some (.cells EY tv (0,0)))
  (hl ol vs:List Value) (hhl:hl.length=i*6) (Tl:ol.length=(n - i)*6) (Mw:vs.length=m*6) (hhc: ∀j v,hl[j]? =some v->arr[o+j]? =some v)
  (hoc: ∀j v,ol[j]? =some v->arr[o+i*6+j]? =some v) (hvc: ∀j v,vs[j]? =some v->EY[vo+j]? =some v)
  (h1o: ∀v∈ol,v.oneCell'=true) (h1v: ∀v∈vs,v.oneCell'=true) (G:Nat) (hG:G=grownCap w (n+m) c tE) (R1 R2 R3:Array Value)
  (hR1:R1=hl.toArray ++Builtin.zeroCells z.cells (n+m - i) ++Builtin.zeroCells z.cells (G - (n+m)))
  (hR2:R2=(R1.toList.take (i*6) ++vs ++R1.toList.drop (i*6+vs.length)).toArray)
  (hR3:R3=(R2.toList.take ((i+m)*6) ++ol ++R2.toList.drop ((i+m)*6+ol.length)).toArray) :
  Calls P f #[.slice (some ⟨b,o,none⟩) n c, .int .i64 i, .slice (some ⟨vb,vo,none⟩) m vc] w fun e w'=>
   e= .returned (.slice (some ⟨w.heap.size,0,none⟩) (n+m) G)/\w'=(((w.alloc (.cells R1 tE)).drew.setRow w.heap.size R2).drew).setRow w.heap.size R3:=by
 have uS:=L.uS; have uI:=L.uI; have uB:=L.uB
 have rS:=run_underlying L.uS; have rI:=run_underlying L.uI; have rB:=run_underlying L.uB
 have mixed:=L.mixed
 obtain ⟨i0,AI,hz0,C8,hzb⟩:=info_parts L.info
 have Ga: ¬((m:Int)=0):=by omega
 have BH: ¬((i:Int)=(n:Int)):=by omega
 have hz3:(c:Int) < (n:Int)+(m:Int):=by omega
 have z9: ∀w,(Go.sizeOf tE).run P w= .ok 6 w:=fun w=>by simp [Go.sizeOf,typeInfo,AI,C8]
 have v9:(P.info? tE).map (·.size)=some 6:=by rw [AI]; simp [C8]
 have hbw:b < w.heap.size:=(Array.getElem?_eq_some_iff.1 gz).1
 have hvw:vb < w.heap.size:=(Array.getElem?_eq_some_iff.1 zA).1
 have Tq:(n:Int)+(m:Int) - (i:Int)=((n+m - i:Nat):Int):=by omega
 have Y4:i+(n+m - i)=n+m:=by omega
 have hold:(Builtin.firstCells i0.size i (.slice (some ⟨b,o,none⟩) i c)).run P w.drew= .ok hl.toArray w.drew:=by
  rw [C8]
  exact run_firstCells_some (P:=P) (w:=w.drew) 6 i ⟨b,o,none⟩ i c hl hhl (fun j v hj=>by rw [Addr.add_lit]; exact (qv gz _).trans (hhc j v hj))
 have hrz: ∀ty,(Builtin.append_ #[tS,tI] ty #[.slice (some ⟨b,o,none⟩) i c, .int .i64 ((n:Int)+(m:Int) - (i:Int))]).run P w=
   .ok (.slice (some ⟨w.heap.size,0,none⟩) (n+m) G) (w.drew.alloc (.cells R1 tE)):=fun ty=>by
  have h:=Lib.run_append_grow_zeros w tS tI ty tE i0 z .i64 .i64 uS uI AI hz0 (some ⟨b,o,none⟩) i c hl hold (n+m - i) aa aa aa aa (by rw [hzb]; omega) (by rw [hzb,Y4]; exact growslice_fits tV Gt)
  rw [Y4] at h
  rw [Tq,h,←hG,hR1]
 have hzc: ∀k,(Builtin.zeroCells z.cells k).size=k*6:=fun k=>by rw [gj,L.zs]
 have hGn:n+m<=G:=by rw [hG]; exact grownCap_ge w _ _ _
 have hG63:G<=9223372036854775807:=by
  have:=grownCap_le_maxLen w (n+m) c tE (by unfold maxLen; omega)
  rw [←hG] at this
  unfold maxLen at this
  omega
 have s1:(n+m)*6<=R1.size:=by
  rw [hR1,Array.size_append,Array.size_append,hzc,hzc]
  simp only [List.size_toArray,hhl]
  omega
 have s2:R2.size=R1.size:=by rw [hR2]; simp; omega
 have rG: ∀W:World,W.heap=(w.alloc (.cells R1 tE)).heap->W.heap[w.heap.size]? =some (.cells R1 tE (0,0)):=fun W hW=>by
  rw [hW]; show (w.heap.push _)[w.heap.size]? =_; simp
 have hv1: ∀W:World,W.heap=(w.alloc (.cells R1 tE)).heap->W.heap[vb]? =some (.cells EY tv (0,0)):=fun W hW=>by
  rw [hW]; show (w.heap.push _)[vb]? =_; rw [Array.getElem?_push_lt hvw]; rw [←zA,Array.getElem?_eq_getElem hvw]
 have hcpA: ∀(W:World),W.heap=(w.alloc (.cells R1 tE)).heap->∀ty dc,(Builtin.copy_ #[tS,tS] ty #[.slice (some ⟨w.heap.size,i*6,none⟩) (n+m - i) dc, .slice (some ⟨vb,vo,none⟩) m vc]).run P W= .ok (goInt m) (W.setRow w.heap.size R2):=fun W hW ty dc=>by
  have vp:Nat.min m (n+m - i)=m:=by simp only [Nat.min_def]; split <;> omega
  have:=kZ (P:=P) (w:=W) (ty:=ty) (s:=tS) uS (z9 _) (blk:=w.heap.size) (o:=i*6) (dl:=n+m - i) (dc:=dc) (sl:=m) (sc:=vc) (src:=⟨vb,vo,none⟩) (cs:=vs) (rG W hW) (by rw [vp]; exact Mw)
   (fun j v hj=>by rw [Addr.add_lit]; exact (qv (hv1 W hW) _).trans (hvc j v hj)) h1v aa
  rw [vp,←hR2] at this
  exact this
 have AG: ∀W:World,W.heap=((w.alloc (.cells R1 tE)).setRow w.heap.size R2).heap->W.heap[w.heap.size]? =some (.cells R2 tE (0,0)):=fun W hW=>by
  rw [hW]; exact setRow_heap _ _ R1 R2 tE (0,0) (rG _ rfl)
 have ua: ∀W:World,W.heap=((w.alloc (.cells R1 tE)).setRow w.heap.size R2).heap->W.heap[b]? =some (.cells arr t fz):=fun W hW=>by
  rw [hW,setRow_other _ w.heap.size b R2 aa]
  show (w.heap.push _)[b]? =_; rw [Array.getElem?_push_lt hbw]; rw [←gz,Array.getElem?_eq_getElem hbw]
 have hcpB: ∀(W:World),W.heap=((w.alloc (.cells R1 tE)).setRow w.heap.size R2).heap->∀ty dc sc,(Builtin.copy_ #[tS,tS] ty #[.slice (some ⟨w.heap.size,(i+m)*6,none⟩) (n+m - (i+m)) dc, .slice (some ⟨b,o+i*6,none⟩) (n - i) sc]).run P W= .ok (goInt (n - i:Nat)) (W.setRow w.heap.size R3):=fun W hW ty dc sc=>by
  have vp:Nat.min (n - i) (n+m - (i+m))=n - i:=by simp only [Nat.min_def]; split <;> omega
  have:=kZ (P:=P) (w:=W) (ty:=ty) (s:=tS) uS (z9 _) (blk:=w.heap.size) (o:=(i+m)*6) (dl:=n+m - (i+m)) (dc:=dc) (sl:=n - i) (sc:=sc) (src:=⟨b,o+i*6,none⟩) (cs:=ol) (AG W hW) (by rw [vp]; exact Tl)
   (fun j v hj=>by rw [Addr.add_lit]; exact (qv (ua W hW) _).trans (hoc j v hj)) h1o aa
  rw [vp,←hR3] at this
  exact this
 have hGi: ¬(G=i):=by omega
 have hGim: ¬(G=i+m):=by omega
 have hci: ¬(c=i):=by omega
 have uK:IntKind.i64.wrap ((i:Int)+(m:Int))=(i:Int)+(m:Int):=by rw [IntKind.wrap_i64]; omega
 have Dc:(0:Int)<=(i:Int)+(m:Int):=by omega
 have wV:i<=n:=by omega
 have htn:((i:Int)+(m:Int)).toNat=i+m:=by omega
 have JE:(i:Int)<=(n:Int):=by omega
 clear Tq Y4 hold hR1 hR2 hR3 hG s1 s2 rG AG hv1 ua hhc hoc hvc hhl Tl Mw hzc
 go_enter L.hf,qc tS tE tI tB tU fO fR
 unfold xt
 have hA':=fun ty dc=>hcpA ((w.alloc (.cells R1 tE)).drew) rfl ty dc
 go_wp2_with (first
  | (at_builtin; refine Lib.wpList_append_run _ rfl _ _ _ _ rfl _ _ rfl rfl _ _ (hrz _) ?_)
  | (simp only [hA']))
 go_region_law_o (refine Lw rfl _ _ tS tS rfl (.slice (some ⟨w.heap.size,(i+m)*6,none⟩) (n+m - (i+m)) (G - (i+m))) (.slice (some ⟨b,o+i*6,none⟩) (n - i) (c - i)) (by simp [Act.eval,Act.put]) (by simp [Act.eval,Act.put]) (hcpB (((w.alloc (.cells R1 tE)).drew.setRow w.heap.size R2).drew) rfl tI (G - (i+m)) (c - i)) ?_)
 go_wp2
 go_ret
 exact ⟨rfl,rfl⟩
end Go.Ab
namespace Go.Ab
open Go.RowKit Go.Lib Go.Shelf Go.Proofs
set_option maxHeartbeats 4000000 in
set_option maxRecDepth 100000 in
theorem YK {P:Program} {f:FuncId} {tS tE tI tB tU:TypeId} {fO fR:FuncId} {z:Value} (L:HZ P f tS tE tI tB tU fO fR z)
  {w:World} (base yb:Option Addr) (n c m vc:Nat) (hm:0 < m) (hnc:n<=c) (wS:base=none->n=0/\c=0) (hc63:n<=9223372036854775807) (cv:Value) (w':World)
  (eL: ∀ty,(Builtin.append_ #[tS,tS] ty #[.slice base n c, .slice yb m vc]).run P w= .ok cv w') :
  Calls P f #[.slice base n c, .int .i64 n, .slice yb m vc] w fun e w''=>e= .returned cv/\w''=w':=by
 have uS:=L.uS; have uI:=L.uI; have uB:=L.uB
 have rS:=run_underlying L.uS; have rI:=run_underlying L.uI; have rB:=run_underlying L.uB
 have mixed:=L.mixed
 obtain ⟨i0,AI,hz0,C8,hzb⟩:=info_parts L.info
 have Ga: ¬((m:Int)=0):=by omega
 have z9: ∀w,(Go.sizeOf tE).run P w= .ok 6 w:=fun w=>by simp [Go.sizeOf,typeInfo,AI,C8]
 have v9:(P.info? tE).map (·.size)=some 6:=by rw [AI]; simp [C8]
 go_enter L.hf,qc tS tE tI tB tU fO fR
 unfold xt
 cases base with
 | none=>
  obtain ⟨h0,lF⟩:=wS rfl
  subst h0 lF
  go_wp2_with (at_builtin; refine Lib.wpList_append_run _ rfl _ _ _ _ rfl _ _ rfl rfl _ _ (eL _) ?_)
  go_ret
  exact ⟨rfl,rfl⟩
 | some a=>
  obtain ⟨ab,ao,asp⟩:=a
  go_wp2_with (at_builtin; refine Lib.wpList_append_run _ rfl _ _ _ _ rfl _ _ rfl rfl _ _ (eL _) ?_)
  all_goals (go_ret; exact ⟨rfl,rfl⟩)
section
variable {P:Program} {fm:Nat->aA} {w:World} {X:Nat->Prop} {μ:Mu} {σ σ':ag}
def PW (fm:Nat->aA) (w:World) (X:Nat->Prop) (μ:Mu) (l:ai) (vs:List Value):Prop:=l.length=vs.length/\∀j,RV fm w X μ (l.getD j .undef) (vs.getD j Go.undef)
theorem PW.append {l m:ai} {vs us:List Value} (h:PW fm w X μ l vs) (k:PW fm w X μ m us):PW fm w X μ (l ++m) (vs ++us):=by
 refine ⟨by simp [h.1,k.1],fun j=> ?_⟩
 simp only [bc,List.getElem?_append]
 by_cases hj:j < l.length
 ·rw [if_pos hj,if_pos (by rw [←h.1]; exact hj)]; exact by simpa [bc] using h.2 j
 ·rw [if_neg hj,if_neg (by rw [←h.1]; exact hj),h.1]; simpa [bc] using k.2 (j - vs.length)
theorem PW.row {cs:ai} {arr:Array Value} {base:Nat} (hl:base+cs.length<=arr.size) (h: ∀j,j < cs.length->RV fm w X μ (cs.getD j .undef) (arr.getD (base+j) Go.undef)) (off k:Nat) (hk:off+k<=cs.length) :
  PW fm w X μ ((cs.drop off).take k) ((arr.toList.drop (base+off)).take k):=by
 refine ⟨by simp; omega,fun j=> ?_⟩
 simp only [bc,List.getElem?_take,List.getElem?_drop]
 by_cases hj:j < k
 ·rw [if_pos hj,if_pos hj]
  have:=h (off+j) aa
  simpa [bc,Array.getD_eq_getD_getElem?,Nat.add_assoc] using this
 ·rw [if_neg hj,if_neg hj]; exact .undef _
theorem PW.bel {w':World} {l:ai} {vs:List Value} (h:PW fm w X μ l vs) (hb:Below w.heap.size w w'):PW fm w' X μ l vs:=⟨h.1,fun j=>(h.2 j).bel hb⟩
theorem PW.ext {w':World} {μ':Mu} {l:ai} {vs:List Value} (h:PW fm w X μ l vs) (hb:Ext w μ w' μ'):PW fm w' X μ' l vs:=⟨h.1,fun j=>(h.2 j).ext hb⟩
theorem PW.one {l:ai} {vs:List Value} (h:PW fm w X μ l vs) (h1:l.all AV.one=true): ∀v∈vs,v.oneCell'=true:=uw h.1 h.2 h1
theorem nB {arr:Array Value} {p k j:Nat} {v:Value} (h:((arr.toList.drop p).take k)[j]? =some v):arr[p+j]? =some v:=by
 rw [List.getElem?_take] at h
 split at h
 ·rw [List.getElem?_drop] at h; simpa using h
 ·cases h
theorem L8 (hS:RS (fm:=fm) σ w X μ) {b:Nat} {cs:ai} (ho:σ.owned b=some cs) {off l sz:Nat} {cap:aA} (hl:0 < l) {v:Value} (r:RV fm w X μ (.sl b off l sz cap) v) :
  ∃(blk base c:Nat) (arr:Array Value) (e:TypeId),v= .slice (some ⟨blk,base+off,none⟩) l c/\μ b= .at blk base true/\w.heap[blk]? =some (.cells arr e (0,0))/\base+cs.length<=arr.size/\
   base+off+c*sz<=arr.size/\l<=c/\σ.get b=some (.own cs)/\(∀j,j < cs.length->RV fm w X μ (cs.getD j .undef) (arr.getD (base+j) Go.undef)):=by
 have di:σ.get b=some (.own cs):=by
  unfold ag.owned at ho
  split at ho
  ·rename_i cs' hh; rw [hh,bT ho]
  ·cases ho
 cases r with
 | slDead _ _ _ _ _ ad c hl hm=>have:=hS.dead b hm; simp [ag.cells,di] at this
 | slZero _ _ _ _ ad bW=>omega
 | sl _ _ _ _ _ blk base c ow aab e0 fz hm hb hr Tp bW=>
  obtain ⟨cs',arr,e',h1,h2,h3,h4⟩:=hS.cells b blk base ow hm
  rw [di] at h1
  cases ow with
  | false=>simp at h1
  | true=>
   simp only [if_true,ah,jP.own.injEq] at h1
   subst h1
   rw [h2] at hb
   simp only [ah,Obj.cells.injEq] at hb
   exact ⟨blk,base,c,arr,e',rfl,hm,h2,h3,by rw [hb.1]; exact hr,Tp,di,h4⟩
theorem QW {α:Type} {a b:List α} {n:Nat} (h:n<=a.length):(a ++b).take n=a.take n:=by rw [List.take_append_of_le_length h]
theorem Ux {α:Type} {a b:List α} {n:Nat} (h:n=a.length):(a ++b).drop n=b:=by subst h; simp
theorem FF (h:Array Obj) (R1 R:Array Value) (t:TypeId):(h.push (.cells R1 t)).modify h.size (fun | .cells _ elem frozen=> .cells R elem frozen | o=>o)=h.push (.cells R t):=by
 apply Array.ext
 ·simp
 ·intro i h1 h2
  simp only [Array.getElem_modify,Array.getElem_push]
  by_cases hi:h.size=i
  ·subst hi; simp
  ·have:i < h.size:=by simp at h2; omega
   simp [hi,this]
theorem uu (w:World) (R1 R:Array Value) (t:TypeId):(((w.alloc (.cells R1 t)).drew).setRow w.heap.size R)=(w.drew).alloc (.cells R t):=by
 exact congrArg (fun h=>({ heap:=h,tape:=w.tape,drawn:=w.drawn+1,os:=w.os,output:=w.output }:World)) (FF w.heap R1 R t)
theorem ins_ok {f:FuncId} {tS tE tI tB tU:TypeId} {fO fR:FuncId} {z:Value} (L:HZ P f tS tE tI tB tU fO fR z)
  (hS:RS (fm:=fm) σ w X μ) (hX: ∀b,X b->b < w.heap.size) {args:ai} {args':Array Value} (hl:args.length=args'.size) (hr: ∀j,RV fm w X μ (args.getD j .undef) (args'.getD j Go.undef))
  {r:AV} (h:gv (.insert 6 96) σ args=some (r,σ')):K0 P fm X μ f args' w r σ':=by
 obtain ⟨i0,AI,hz0,C8,hzb⟩:=info_parts L.info
 unfold gv at h
 split at h
 case h_2=>rename_i he; simp at he
 case h_3=>rename_i he; simp at he
 case h_4=>rename_i he; simp at he
 case h_5=>rename_i he; simp at he
 case h_6=>rename_i he; simp at he
 case h_7=>rename_i he; simp at he
 case h_8=>rename_i he; simp at he
 case h_9=>rename_i he; simp at he
 case h_10=>rename_i he; simp at he
 case h_11=>simp at h
 rename_i sz bytes x i y hk
 simp only [Ar.insert.injEq] at hk
 obtain ⟨rfl,rfl⟩:=hk
 obtain ⟨x',i',y',rfl⟩ : ∃x' i' y',args'= #[x',i',y']:=by
  obtain ⟨l⟩:=args'
  simp at hl
  match l,hl with
  | [a,b,c],_=>exact ⟨a,b,c,rfl⟩
 have rx:RV fm w X μ x x':=hr 0
 have ri:RV fm w X μ (.int .i64 i) i':=hr 1
 have ry:RV fm w X μ y y':=hr 2
 cases ri
 unfold jJ at h
 split at h
 case h_2=>simp at h
 rename_i n m new hn hm qg
 split at h
 ·
  rename_i wV
  subst wV
  split at h
  case isFalse=>simp at h
  rename_i Pm
  have dh:new.all AV.one=true:=by
   unfold aF at h
   split at h
   ·simp at h
   ·split at h
    ·rename_i aK; exact aK.2.2.2.2
    ·simp at h
  have hbnd:n<=9223372036854775807:=by
   unfold aF at h
   rw [hn] at h
   simp only at h
   split at h
   ·rename_i aK
    have:=aK.2.2.1
    unfold aY at this
    omega
   ·simp at h
  have tR:=qC (P:=P) hS ry qg hm dh L.uS
  obtain ⟨cv,w',μ',r1,r2,r3,r4,_⟩:=qZ (P:=P) (ty:=0) hS hX rx L.uS AI hz0 C8 hzb L.zs tR h
  have hty: ∀ty,(Builtin.append_ #[tS,tS] ty #[x',y']).run P w= .ok cv w':=fun ty=>by
   obtain ⟨cv2,w2,_,q1,_⟩:=qZ (P:=P) (ty:=ty) hS hX rx L.uS AI hz0 C8 hzb L.zs tR h
   have:Builtin.append_ #[tS,tS] ty #[x',y']=Builtin.append_ #[tS,tS] 0 #[x',y']:=rfl
   rw [this]; exact r1
  have sx: ∃base c,x'= .slice base n c/\n<=c/\(base=none->n=0/\c=0):=by
   cases rx <;> simp only [lenOf,ah,reduceCtorEq] at hn
   all_goals first
    | (subst hn; exact ⟨_,_,rfl,by first | assumption | omega | simp,by intro hh; first | exact ⟨rfl,rfl⟩ | (exfalso; simp at hh)⟩)
    | (exfalso; simp [aF,lenOf] at h)
  have sy: ∃yb vc,y'= .slice yb m vc:=by
   cases ry <;> simp only [lenOf,ah,reduceCtorEq] at hm
   all_goals first
    | (subst hm; exact ⟨_,_,rfl⟩)
    | (simp [rowOf] at qg)
  obtain ⟨base,c,rfl,hnc,wS⟩:=sx
  obtain ⟨yb,vc,rfl⟩:=sy
  exact Calls.mono (YK L base yb n c m vc Pm hnc wS hbnd cv w' hty) (by rintro e w'' ⟨rfl,rfl⟩; exact ⟨cv,μ',rfl,r2,r4,r3⟩)
 ·rename_i wV
  split at h
  case h_2=>simp at h
  rename_i b off l kl b2 AS l2 sz2 cap2
  split at h
  case h_2=>simp at h
  rename_i cs cs2 ho ho2
  split at h <;> simp only [ah,aL,reduceCtorEq] at h
  rename_i aK
  obtain ⟨fV,rfl,_,_,hi0',hin',Pm,wT,gh,dh,honew⟩:=aK
  obtain ⟨rfl,rfl⟩:=h
  simp only [lenOf,ah] at hn hm
  subst hn hm
  obtain ⟨k,rfl⟩ : ∃k:Nat,i=(k:Int):=⟨i.toNat,by omega⟩
  have hk:k < l:=by omega
  simp only [Int.toNat_natCast]
  obtain ⟨blk,base,c,arr,e1,rfl,MA,gz,hlen,tV,Tp,di,V3⟩:=L8 hS ho aa rx
  obtain ⟨ZF,qz,c2,kg,e2,rfl,Pl,zB,BM,zC,hlc2,Tt,hrv2⟩:=L8 hS ho2 Pm ry
  have oN:ZF≠blk:=fun hh=>fV (hS.inj b b2 blk base qz MA (hh▸Pl))
  simp only [rowOf] at qg
  split at qg
  case isFalse=>simp at qg
  rename_i nH
  subst nH
  have hcs2:σ.cells b2=some cs2:=by simp [ag.cells,Tt]
  rw [hcs2] at qg
  simp only at qg
  split at qg <;> simp only [ah,reduceCtorEq] at qg
  rename_i hle2
  subst qg
  have e0:off+l*6<=cs.length:=by omega
  have pH:PW fm w X μ ((cs.drop off).take (k*6)) ((arr.toList.drop (base+off)).take (k*6)):=PW.row hlen V3 off (k*6) aa
  have pO:PW fm w X μ ((cs.drop (off+k*6)).take ((l - k)*6)) ((arr.toList.drop (base+(off+k*6))).take ((l - k)*6)):=PW.row hlen V3 (off+k*6) ((l - k)*6) aa
  have pV:PW fm w X μ ((cs2.drop AS).take (l2*6)) ((kg.toList.drop (qz+AS)).take (l2*6)):=PW.row BM hrv2 AS (l2*6) aa
  have hdd:(cs.drop off).drop (k*6)=(cs.drop (off+k*6)).take ((l - k)*6):=by
   rw [List.drop_drop,aJ]
   rw [fw]; omega
  rw [hdd]
  have one1: ∀v∈(arr.toList.drop (base+(off+k*6))).take ((l - k)*6),v.oneCell'=true:=pO.one (bG.2 fun a ha=>bG.1 dh a (List.mem_of_mem_drop (List.mem_of_mem_take ha)))
  have one2: ∀v∈(kg.toList.drop (qz+AS)).take (l2*6),v.oneCell'=true:=pV.one honew
  generalize hHL:(arr.toList.drop (base+off)).take (k*6)=HL at pH
  generalize hOL:(arr.toList.drop (base+(off+k*6))).take ((l - k)*6)=OL at pO one1
  generalize hVL:(kg.toList.drop (qz+AS)).take (l2*6)=VL at pV one2
  have lH:HL.length=k*6:=by rw [←hHL]; simp; omega
  have lO:OL.length=(l - k)*6:=by rw [←hOL]; simp; omega
  have lV:VL.length=l2*6:=by rw [←hVL]; simp; omega
  have X8:=(pH.append pV).append pO
  have hHc: ∀j v,HL[j]? =some v->arr[base+off+j]? =some v:=fun j v hj=>by rw [←hHL] at hj; exact nB hj
  have hOc: ∀j v,OL[j]? =some v->arr[base+off+k*6+j]? =some v:=fun j v hj=>by
   rw [←hOL] at hj; have:=nB hj; rwa [←Nat.add_assoc base] at this
  have hVc: ∀j v,VL[j]? =some v->kg[qz+AS+j]? =some v:=fun j v hj=>by rw [←hVL] at hj; exact nB hj
  have hb:=Ak w
  by_cases Tj:l+l2<=c
  ·
   have hA: ∀A1,A1=(arr.toList.take (base+off+(k+l2)*6) ++OL ++arr.toList.drop (base+off+(k+l2)*6+OL.length)).toArray->
     A1.toList.take (base+off+k*6)=arr.toList.take (base+off) ++HL/\A1.toList.drop (base+off+k*6+VL.length)=OL ++arr.toList.drop (base+off+(k+l2)*6+OL.length)/\A1.size=arr.size:=by
    rintro A1 rfl
    have fb:arr.toList.length=arr.size:=by simp
    refine ⟨?_,?_,?_⟩
    ·rw [bb]
     show (arr.toList.take (base+off+(k+l2)*6) ++_).take (base+off+k*6)=_
     rw [QW (by rw [bU]; omega),List.take_take,Nat.min_eq_left aa,List.take_add,hHL]
    ·rw [bb]
     exact Ux (by rw [bU]; omega)
    ·simp; omega
   obtain ⟨A1,Wf⟩ : ∃A1,A1=(arr.toList.take (base+off+(k+l2)*6) ++OL ++arr.toList.drop (base+off+(k+l2)*6+OL.length)).toArray:=⟨_,rfl⟩
   obtain ⟨q1,q2,q3⟩:=hA A1 Wf
   obtain ⟨A2,hA2⟩ : ∃A2,A2=(A1.toList.take (base+off+k*6) ++VL ++A1.toList.drop (base+off+k*6+VL.length)).toArray:=⟨_,rfl⟩
   have JD:=Pg L (w:=w) blk (base+off) l c k ZF (qz+AS) l2 c2 arr kg e1 e2 hk Pm Tj (by unfold aY at wT; omega) oN gz tV zB OL VL lO lV hOc hVc one1 one2 A1 A2 Wf hA2
   have hA2':A2.toList=arr.toList.take (base+off) ++(HL ++VL ++OL ++arr.toList.drop (base+off+(k+l2)*6+OL.length)):=by
    rw [hA2,q1,q2]; simp [bb]
   have Th:A2.size=arr.size:=by
    have:=congrArg List.length hA2'
    simp at this
    omega
   have hS':=hS.below hb
   have hrow':w.drew.heap[blk]? =some (.cells arr e1 (0,0)):=gz
   have rJ:=zt (w:=w.drew) hS' MA di hrow' Th (cs':=(cs.drop off).take (k*6) ++(cs2.drop AS).take (l2*6) ++(cs.drop (off+k*6)).take ((l - k)*6)) (off:=off)
    (by rw [Th]; simp; omega)
    (fun j hj=>by
     have h1:=(X8.bel hb).2 j
     have MB:j < (HL ++VL ++OL).length:=by rw [←X8.1]; exact hj
     have h2:A2.getD (base+off+j) Go.undef=(HL ++VL ++OL).getD j Go.undef:=by
      have e3:A2.getD (base+off+j) Go.undef=A2.toList.getD (base+off+j) Go.undef:=by simp
      have e4:(arr.toList.take (base+off)).length=base+off:=by rw [bU]; simp; omega
      rw [e3,hA2']
      simp only [bc]
      rw [eI aa,e4,Nat.add_sub_cancel_left,eX MB]
     rw [h2]; exact h1)
    (len:=l+l2) (c:=c) (sz:=6) Tj aa
   obtain ⟨t1,t2,t3⟩:=rJ
   refine Calls.mono JD ?_
   rintro e w'' ⟨rfl,rfl⟩
   rw [setRow_setRow]
   exact ⟨_,_,rfl,t1,t3,(Ext.of_below hb).trans t2⟩
  ·
   obtain ⟨G,hG⟩ : ∃G,G=grownCap w (l+l2) c tE:=⟨_,rfl⟩
   obtain ⟨Z,hZ⟩ : ∃Z,Z=Builtin.zeroCells z.cells (l+l2 - k) ++Builtin.zeroCells z.cells (G - (l+l2)):=⟨_,rfl⟩
   have hzc: ∀n,(Builtin.zeroCells z.cells n).size=n*6:=fun n=>by rw [gj,L.zs]
   have lZ:(l+l2 - k)*6<=Z.toList.length:=by rw [hZ]; simp [hzc]
   obtain ⟨R1,hR1⟩ : ∃R1,R1=HL.toArray ++Builtin.zeroCells z.cells (l+l2 - k) ++Builtin.zeroCells z.cells (G - (l+l2)):=⟨_,rfl⟩
   have hR1':R1.toList=HL ++Z.toList:=by rw [hR1,hZ]; simp
   obtain ⟨R2,hR2⟩ : ∃R2,R2=(R1.toList.take (k*6) ++VL ++R1.toList.drop (k*6+VL.length)).toArray:=⟨_,rfl⟩
   have hR2':R2.toList=HL ++VL ++Z.toList.drop VL.length:=by
    rw [hR2,hR1',←lH]
    simp
   obtain ⟨R3,hR3⟩ : ∃R3,R3=(R2.toList.take ((k+l2)*6) ++OL ++R2.toList.drop ((k+l2)*6+OL.length)).toArray:=⟨_,rfl⟩
   have hHV:(HL ++VL).length=(k+l2)*6:=by rw [aq]; omega
   have hR3':R3.toList=HL ++VL ++OL ++(Z.toList.drop VL.length).drop OL.length:=by
    rw [hR3,hR2']
    show ((HL ++VL ++Z.toList.drop VL.length).take ((k+l2)*6) ++OL) ++(HL ++VL ++Z.toList.drop VL.length).drop ((k+l2)*6+OL.length)=_
    rw [←hHV,List.take_left,←List.drop_drop,List.drop_left]
   have JD:=S9 L (w:=w) blk (base+off) l c k ZF (qz+AS) l2 c2 arr kg e1 e2 (0,0) hk Pm Tp aa (by unfold aY at wT; exact wT) gz zB HL OL VL lH lO lV hHc hOc hVc one1 one2 G hG R1 R2 R3 hR1 hR2 hR3
   have hworld:(((w.alloc (.cells R1 tE)).drew.setRow w.heap.size R2).drew).setRow w.heap.size R3=w.drew.drew.alloc (.cells R3 tE):=by
    rw [uu]
    exact uu w.drew R2 R3 tE
   have ua:Below w.heap.size w w.drew.drew:=hb.drew
   have hS':=hS.below ua
   have AK:b < σ.next:=hS.lim b _ di
   obtain ⟨x1,x2⟩:=Mm (w:=w.drew.drew) hS' b AK
   have pAll':=(X8.bel ua).ext x1
   have lA:=X8.1
   have hR3l:(HL ++VL ++OL).length<=R3.size:=by
    have:=congrArg List.length hR3'
    simp at this ⊢
    omega
   obtain ⟨y1,y2⟩:=kM (σ:=σ.set b .dead) (w:=w.drew.drew) x2 hX (cs:=(cs.drop off).take (k*6) ++(cs2.drop AS).take (l2*6) ++(cs.drop (off+k*6)).take ((l - k)*6)) (arr:=R3) tE (by rw [lA]; exact hR3l)
    (fun j hj=>by
     have MB:j < (HL ++VL ++OL).length:=by rw [←lA]; exact hj
     have h2:R3.getD j Go.undef=(HL ++VL ++OL).getD j Go.undef:=by
      have e3:R3.getD j Go.undef=R3.toList.getD j Go.undef:=by simp
      rw [e3,hR3']
      simp only [bc]
      rw [eX MB]
     rw [h2]; exact pAll'.2 j)
   refine Calls.mono JD ?_
   rintro e w'' ⟨rfl,rfl⟩
   rw [hworld]
   refine ⟨_,_,rfl,?_,y2,(Ext.of_below ua).trans (x1.trans y1)⟩
   have hGn:l+l2<=G:=by rw [hG]; exact grownCap_ge w _ _ _
   have hR3s:G*6<=R3.size:=by
    have h1:=congrArg List.length hR3'
    have h2:Z.toList.length=(l+l2 - k)*6+(G - (l+l2))*6:=by rw [hZ]; simp [hzc]
    simp at h1
    simp at h2
    omega
   exact RV.sl _ 0 (l+l2) 6 none w.heap.size 0 G true R3 tE (0,0) (by simp only [Mu.bind]; exact if_pos rfl) (show (w.heap.push _)[w.heap.size]? =_ by simp) aa hGn (.inl rfl)
end
end Go.Ab
