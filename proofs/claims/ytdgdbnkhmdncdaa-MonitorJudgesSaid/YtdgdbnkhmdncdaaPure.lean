/- Plain words: sets of processes, orders, events. -/
import GoSem.Core.View
set_option linter.unusedSectionVars false
set_option linter.unusedSimpArgs false
set_option linter.unusedVariables false
namespace Go.Cs
def cmpI (a b : Int) : Int := if a < b then -1 else if b < a then 1 else 0
def orI (x y : Int) : Int := if x ≠ 0 then x else y
def bit (p : Int) : Int := if (decide (p < 0) || decide (64 ≤ p)) = true then 0 else IntKind.u64.wrap (1 * 2 ^ (min p.toNat 64))
def has (s p : Int) : Bool := IntKind.u64.wrap ((BitVec.ofInt 64 s &&& BitVec.ofInt 64 (bit p)).toNat) != 0
def but (s t : Int) : Int := IntKind.u64.wrap ((BitVec.ofInt 64 s &&& ~~~ BitVec.ofInt 64 t).toNat)
def isIn (s t : Int) : Bool := but s t == 0
end Go.Cs
