-- Cut down by wip/prune.py (a program of this repo) to what this claim reaches, out of a text that was written for it by the kit's print.sh; Lean checks it.
import Derived.Test.YtnnpfgpfkningaaWInv
import Derived.Test.YtnnpfgpfkningaaWFootNe
namespace Go.Proofs.YtnnpfgpfkningaaW.PrintWords
open Go.RowKit
end Go.Proofs.YtnnpfgpfkningaaW.PrintWords
namespace Go.Proofs.YtnnpfgpfkningaaW.PrintLast
section
variable {ops : Array Oper} {a : Act} {o og : Oper} {g : Nat} {t : Tmp} {u : Bool}
end
end Go.Proofs.YtnnpfgpfkningaaW.PrintLast
