-- Cut down by wip/prune.py (a program of this repo) to what this claim reaches, out of a text that was written for it by the kit's print.sh; Lean checks it.
import Derived.Test.YtnnpfgpfkningaaWInv
import Derived.Test.YtnnpfgpfkningaaWFootNe
namespace Go.Proofs.YtnnpfgpfkningaaW.PrintWords
open Go.RowKit
end Go.Proofs.YtnnpfgpfkningaaW.PrintWords
namespace Go.Proofs.YtnnpfgpfkningaaW.PrintLast
section
variable {ops : Array Oper} {a : Act} {o og : Oper} {g : Nat} {t : Tmp} {u : Bool}
/-- A guarded operation whose guard has yielded what it wants. -/
theorem wanted_on (hg : o.guard = some (g, u)) (ho : ops[g]? = some og) (hd : og.dst = some t) (hv : a.tmps[t]? = some (.bool u)) : Region.wanted o (yielded ops a.tmps) = true := by
  simp [Region.wanted, hg, yielded, ho, hd, hv]
/-- The other: it isn't carried out. -/
theorem wanted_off (hg : o.guard = some (g, u)) (ho : ops[g]? = some og) (hd : og.dst = some t) (hv : a.tmps[t]? = some (.bool (!u))) : Region.wanted o (yielded ops a.tmps) = false := by
  cases u <;> simp_all [Region.wanted, yielded]
end
end Go.Proofs.YtnnpfgpfkningaaW.PrintLast
