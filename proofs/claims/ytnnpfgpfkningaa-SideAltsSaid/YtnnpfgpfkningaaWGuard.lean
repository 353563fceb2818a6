-- Cut down by wip/prune.py (a program of this repo) to what this claim reaches, out of a text that was written for it by the kit's print.sh; Lean checks it.
import Derived.Test.YtnnpfgpfkningaaWWords
namespace Go.Proofs.YtnnpfgpfkningaaW.PrintWords
open Go.RowKit
section
variable {P : Program} {ops : Array Oper} {rest : List Oper} {o : Oper} {a : Act} {Q : Exit → Act → World → Prop} {W : World}
end
end Go.Proofs.YtnnpfgpfkningaaW.PrintWords
