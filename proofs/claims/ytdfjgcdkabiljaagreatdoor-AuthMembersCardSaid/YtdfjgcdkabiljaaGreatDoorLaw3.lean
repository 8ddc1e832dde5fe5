/- What functions of the program, and of the library, answer. Conditions: none. -/
import Derived.Test.YtdfjgcdkabiljaaGreatDoorLaw2
set_option linter.unusedVariables false
set_option linter.unusedSimpArgs false
set_option linter.defProp false
set_option linter.unnecessarySimpa false
namespace Go.Ab
set_option maxHeartbeats 1000000
theorem r_Good (s:Bs):cR 88 [.str s]=some (.bool (vu s)):=by
 refine cR_of (F:=F88) rfl ?_
 simp only [F88,EXA,Nat.reduceEqDiff,reduceCtorEq,r_valid]
end Go.Ab
