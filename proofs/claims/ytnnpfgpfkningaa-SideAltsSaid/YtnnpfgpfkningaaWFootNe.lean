-- Cut down by wip/prune.py (a program of this repo) to what this claim reaches, out of a text that was written for it by the kit's print.sh; Lean checks it.
import Derived.Test.YtnnpfgpfkningaaWN
namespace Go.Proofs.YtnnpfgpfkningaaW.PrintWords
open Go.RowKit
namespace Kd
section
variable {α : Type} {d : Kd α} {W : World} {g n : Nat} {S ok : Nat → Prop} {A : Option Addr} {ad : Addr} {xs : List α}
end
end Kd
end Go.Proofs.YtnnpfgpfkningaaW.PrintWords
