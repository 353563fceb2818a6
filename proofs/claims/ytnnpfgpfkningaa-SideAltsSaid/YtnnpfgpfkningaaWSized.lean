-- Cut down by wip/prune.py (a program of this repo) to what this claim reaches, out of a text that was written for it by the kit's print.sh; Lean checks it.
import Derived.SizedLaws
import Derived.ChangeSlices
namespace Go.Proofs.YtnnpfgpfkningaaW.PrintWords
open Go.ChangeShapes Go.WideShapes
end Go.Proofs.YtnnpfgpfkningaaW.PrintWords
