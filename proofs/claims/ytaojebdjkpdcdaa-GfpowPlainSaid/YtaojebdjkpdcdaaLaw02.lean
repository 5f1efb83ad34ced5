/- The statements of layer 2, as contracts. -/
import Derived.Test.YtaojebdjkpdcdaaRef2
namespace Go.Proofs.Ytaojebdjkpdcdaa.I
open Go
set_option maxRecDepth 10000
set_option linter.unusedSimpArgs false
set_option linter.unusedVariables false

abbrev tPs : Ty (List (List Nat)) := tL tU
@[go_sem] theorem tLu_enc (xs : List (List Nat)) : (tL (tL (tN .u64))).enc xs = .sl (els (tL (tN .u64)).enc xs) := rfl

def c_law02_Large : Cn := fn1 tPs (fun _ => True) fun l => .b (l.any fun xs => decide (16 < xs.length))
def c_law02_awake : Cn := fn0 (.b true)
end Go.Proofs.Ytaojebdjkpdcdaa.I
