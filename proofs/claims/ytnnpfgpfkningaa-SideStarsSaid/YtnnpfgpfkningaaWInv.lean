-- Cut down by wip/prune.py (a program of this repo) to what this claim reaches, out of a text that was written for it by the kit's print.sh; Lean checks it.
import Derived.Test.YtnnpfgpfkningaaWTab
namespace Go.Proofs.YtnnpfgpfkningaaW.PrintLast
/-- Number i is listed too. -/
def up (b : Nat → Bool) (i : Nat) : Nat → Bool := fun j => if j = i then true else b j
section
variable {P : Program} {ops : Array Oper} {Q : Exit → Act → World → Prop} {md : Region.Mode} {T : Bool × List (List Nat × List Nat)} {B : List Nat} {O : List Nat} {b : Nat → Bool} {i j n : Nat}
end
end Go.Proofs.YtnnpfgpfkningaaW.PrintLast
