-- Cut down by wip/prune.py (a program of this repo) to what this claim reaches, out of a text that was written for it by the kit's print.sh; Lean checks it.
import Derived.Test.YtnnpfgpfkningaaWWords
import Derived.Test.YtnnpfgpfkningaaWLast
namespace Go.Proofs.YtnnpfgpfkningaaW.PrintWords
open Go.RowKit
namespace Kd
section
variable {α : Type} {d : Kd α} {e base g o n cap : Nat} {ok okp : Nat → Prop} {w W : World} {v : Value} {xs : List α}
end
section
variable {α : Type} {enc : α → Value} {h1 : ∀ x, (enc x).oneCell' = true} {e base g o n cap : Nat} {ok : Nat → Prop} {W : World} {xs : List α}
end
end Kd
end Go.Proofs.YtnnpfgpfkningaaW.PrintWords
