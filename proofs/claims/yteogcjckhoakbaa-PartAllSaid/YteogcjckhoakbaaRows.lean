/-
  No cell of these rows narrows 'for every input' (looked for: loops, veiled, ifaces, maps, wideKeys, modest, calm, conditions, laid).
  DERIVED. THE GIVEN ROWS OF THIS SEAT. 8 by the template 'for every input the law returns true; each argument reads behind the call as it read before'; 0 by the template 'total and deterministic' (their statements: YteogcjckhoakbaaTotals.lean).
  GIVEN WITH THE SEED: the statements are not yours to turn. If you find one false, say at which input.
  Laid BY PROGRAM, IN A SANDBOX (cutbox-rows.mjs): the forced cells as the released guide's own fill.sh prints them over the translation 80e23640dd3dce0b… (all of the seat's roots in one cut). By AI agents, Wed Nov 11 2026. No macro, syntax, notation, axiom, sorry.
-/
import Derived.Test.YteogcjckhoakbaaChecked
import GoSem.Claim
import GoSem.ClaimJoined
import GoSem.ClaimMapViews
import Derived.JoinedTies
import Derived.KernelRfl
namespace Go.Proofs.Yteogcjckhoakbaa
/- THE CELL 'sum', in the pinned program and in every row, IS THE sha256 OF THE DUMP (.gsa) THAT YteogcjckhoakbaaProg.lean LOADS. Nothing in Lean hashes anything: it is a label: what it is worth is what the hold of that sum in a sandbox is worth. -/
noncomputable def Try.pinned : Pinned := { name := "yteogcjckhoakbaa", sum := "80e23640dd3dce0b3c35439d88d4d57655510dd4e4624d61cdfd9ba46d33c1de", checked := Try.checked }
namespace Rows
def none {H : Type} : Left H := { results := [], args := [] }

/-- 'hyphenlaw4.PartAll': WHATEVER THE INPUT: true; the input reads as it did. -/
def partAllSpec : ChangeSpec := { name := "partAll", fn := fun _ => fun
  | [d1, d2] => { results := [.lit (.bool true)], args := [d1, d2] }
  | _ => none }
def partAllRow : OpenClaim := { program := "yteogcjckhoakbaa", sum := "80e23640dd3dce0b3c35439d88d4d57655510dd4e4624d61cdfd9ba46d33c1de", func := "hyphen/hyphenlaw4.PartAll", spec := "partAll", unfollowed := true, recurses := true, apart := false }
def PartAllSaid : Prop := partAllRow.holds Try.pinned (OpenSpec.ofChange partAllSpec)

/-- ITS FALSE NEIGHBOUR: 'it returns false'. Refute it at one input. -/
def partAllWrong : ChangeSpec := { name := "partAll", fn := fun _ => fun
  | [d1, d2] => { results := [.lit (.bool false)], args := [d1, d2] }
  | _ => none }
def PartAllWrongFalsely : Prop := partAllRow.holds Try.pinned (OpenSpec.ofChange partAllWrong)

/-- 'hyphenlaw4.PartAlike': WHATEVER THE INPUT: true; the input reads as it did. -/
def partAlikeSpec : ChangeSpec := { name := "partAlike", fn := fun _ => fun
  | [d1, d2, d3] => { results := [.lit (.bool true)], args := [d1, d2, d3] }
  | _ => none }
def partAlikeRow : OpenClaim := { program := "yteogcjckhoakbaa", sum := "80e23640dd3dce0b3c35439d88d4d57655510dd4e4624d61cdfd9ba46d33c1de", func := "hyphen/hyphenlaw4.PartAlike", spec := "partAlike", unfollowed := true, recurses := true, apart := false }
def PartAlikeSaid : Prop := partAlikeRow.holds Try.pinned (OpenSpec.ofChange partAlikeSpec)

/-- ITS FALSE NEIGHBOUR: 'it returns false'. Refute it at one input. -/
def partAlikeWrong : ChangeSpec := { name := "partAlike", fn := fun _ => fun
  | [d1, d2, d3] => { results := [.lit (.bool false)], args := [d1, d2, d3] }
  | _ => none }
def PartAlikeWrongFalsely : Prop := partAlikeRow.holds Try.pinned (OpenSpec.ofChange partAlikeWrong)

/-- 'hyphenlaw4.PartSets': WHATEVER THE INPUT: true; the input reads as it did. -/
def partSetsSpec : ChangeSpec := { name := "partSets", fn := fun _ => fun
  | [d1, d2] => { results := [.lit (.bool true)], args := [d1, d2] }
  | _ => none }
def partSetsRow : OpenClaim := { program := "yteogcjckhoakbaa", sum := "80e23640dd3dce0b3c35439d88d4d57655510dd4e4624d61cdfd9ba46d33c1de", func := "hyphen/hyphenlaw4.PartSets", spec := "partSets", unfollowed := true, recurses := true, apart := false }
def PartSetsSaid : Prop := partSetsRow.holds Try.pinned (OpenSpec.ofChange partSetsSpec)

/-- ITS FALSE NEIGHBOUR: 'it returns false'. Refute it at one input. -/
def partSetsWrong : ChangeSpec := { name := "partSets", fn := fun _ => fun
  | [d1, d2] => { results := [.lit (.bool false)], args := [d1, d2] }
  | _ => none }
def PartSetsWrongFalsely : Prop := partSetsRow.holds Try.pinned (OpenSpec.ofChange partSetsWrong)

/-- 'hyphenlaw4.PartFewest': WHATEVER THE INPUT: true; the input reads as it did. -/
def partFewestSpec : ChangeSpec := { name := "partFewest", fn := fun _ => fun
  | [d] => { results := [.lit (.bool true)], args := [d] }
  | _ => none }
def partFewestRow : OpenClaim := { program := "yteogcjckhoakbaa", sum := "80e23640dd3dce0b3c35439d88d4d57655510dd4e4624d61cdfd9ba46d33c1de", func := "hyphen/hyphenlaw4.PartFewest", spec := "partFewest", unfollowed := true, recurses := true, apart := false }
def PartFewestSaid : Prop := partFewestRow.holds Try.pinned (OpenSpec.ofChange partFewestSpec)

/-- ITS FALSE NEIGHBOUR: 'it returns false'. Refute it at one input. -/
def partFewestWrong : ChangeSpec := { name := "partFewest", fn := fun _ => fun
  | [d] => { results := [.lit (.bool false)], args := [d] }
  | _ => none }
def PartFewestWrongFalsely : Prop := partFewestRow.holds Try.pinned (OpenSpec.ofChange partFewestWrong)

/-- 'hyphenlaw4.PartOrder': WHATEVER THE INPUT: true; the input reads as it did. -/
def partOrderSpec : ChangeSpec := { name := "partOrder", fn := fun _ => fun
  | [d1, d2] => { results := [.lit (.bool true)], args := [d1, d2] }
  | _ => none }
def partOrderRow : OpenClaim := { program := "yteogcjckhoakbaa", sum := "80e23640dd3dce0b3c35439d88d4d57655510dd4e4624d61cdfd9ba46d33c1de", func := "hyphen/hyphenlaw4.PartOrder", spec := "partOrder", unfollowed := true, recurses := true, apart := false }
def PartOrderSaid : Prop := partOrderRow.holds Try.pinned (OpenSpec.ofChange partOrderSpec)

/-- ITS FALSE NEIGHBOUR: 'it returns false'. Refute it at one input. -/
def partOrderWrong : ChangeSpec := { name := "partOrder", fn := fun _ => fun
  | [d1, d2] => { results := [.lit (.bool false)], args := [d1, d2] }
  | _ => none }
def PartOrderWrongFalsely : Prop := partOrderRow.holds Try.pinned (OpenSpec.ofChange partOrderWrong)

/-- 'hyphenlaw4.PartNot': WHATEVER THE INPUT: true; the input reads as it did. -/
def partNotSpec : ChangeSpec := { name := "partNot", fn := fun _ => fun
  | [d1, d2] => { results := [.lit (.bool true)], args := [d1, d2] }
  | _ => none }
def partNotRow : OpenClaim := { program := "yteogcjckhoakbaa", sum := "80e23640dd3dce0b3c35439d88d4d57655510dd4e4624d61cdfd9ba46d33c1de", func := "hyphen/hyphenlaw4.PartNot", spec := "partNot", unfollowed := true, recurses := true, apart := false }
def PartNotSaid : Prop := partNotRow.holds Try.pinned (OpenSpec.ofChange partNotSpec)

/-- ITS FALSE NEIGHBOUR: 'it returns false'. Refute it at one input. -/
def partNotWrong : ChangeSpec := { name := "partNot", fn := fun _ => fun
  | [d1, d2] => { results := [.lit (.bool false)], args := [d1, d2] }
  | _ => none }
def PartNotWrongFalsely : Prop := partNotRow.holds Try.pinned (OpenSpec.ofChange partNotWrong)

/-- 'hyphenlaw4.PartMore': WHATEVER THE INPUT: true; the input reads as it did. -/
def partMoreSpec : ChangeSpec := { name := "partMore", fn := fun _ => fun
  | [d1, d2, d3, d4] => { results := [.lit (.bool true)], args := [d1, d2, d3, d4] }
  | _ => none }
def partMoreRow : OpenClaim := { program := "yteogcjckhoakbaa", sum := "80e23640dd3dce0b3c35439d88d4d57655510dd4e4624d61cdfd9ba46d33c1de", func := "hyphen/hyphenlaw4.PartMore", spec := "partMore", unfollowed := true, recurses := true, apart := false }
def PartMoreSaid : Prop := partMoreRow.holds Try.pinned (OpenSpec.ofChange partMoreSpec)

/-- ITS FALSE NEIGHBOUR: 'it returns false'. Refute it at one input. -/
def partMoreWrong : ChangeSpec := { name := "partMore", fn := fun _ => fun
  | [d1, d2, d3, d4] => { results := [.lit (.bool false)], args := [d1, d2, d3, d4] }
  | _ => none }
def PartMoreWrongFalsely : Prop := partMoreRow.holds Try.pinned (OpenSpec.ofChange partMoreWrong)

/-- 'hyphenlaw4.PartWalk': WHATEVER THE INPUT: true; the input reads as it did. -/
def partWalkSpec : ChangeSpec := { name := "partWalk", fn := fun _ => fun
  | [d1, d2] => { results := [.lit (.bool true)], args := [d1, d2] }
  | _ => none }
def partWalkRow : OpenClaim := { program := "yteogcjckhoakbaa", sum := "80e23640dd3dce0b3c35439d88d4d57655510dd4e4624d61cdfd9ba46d33c1de", func := "hyphen/hyphenlaw4.PartWalk", spec := "partWalk", unfollowed := true, recurses := true, apart := false }
def PartWalkSaid : Prop := partWalkRow.holds Try.pinned (OpenSpec.ofChange partWalkSpec)

/-- ITS FALSE NEIGHBOUR: 'it returns false'. Refute it at one input. -/
def partWalkWrong : ChangeSpec := { name := "partWalk", fn := fun _ => fun
  | [d1, d2] => { results := [.lit (.bool false)], args := [d1, d2] }
  | _ => none }
def PartWalkWrongFalsely : Prop := partWalkRow.holds Try.pinned (OpenSpec.ofChange partWalkWrong)

/- THE SECOND FORM. 'bulk': how many values and letters a reading holds, each counted each time it is reached (what is shared counts as often as it is met; a slice's spare places count too). A statement '..UptoSaid' is the law's where the arguments, and the package variables that the reading takes, are together of bulk at most 1048576: NARROWER than '..Said'. Prove '..Said' where nothing that the law and all that it calls make is longer than what came in: it says more and counts as full. Else prove '..UptoSaid'. A law counts once. -/
mutual
def uptoBulk {H : Type} : DataW H → Nat
  | .lit (.string bytes) => bytes.length + 1
  | .lit _ => 1
  | .nil => 1
  | .ptr d => uptoBulk d + 1
  | .slice elems spare => uptoBulkAll elems + uptoBulkAll spare + 1
  | .agg parts => uptoBulkAll parts + 1
  | .iface _ d => uptoBulk d + 1
  | .map entries => uptoBulkEntries entries + 1
  | .held _ => 1
def uptoBulkAll {H : Type} : List (DataW H) → Nat
  | [] => 0
  | d :: r => uptoBulk d + uptoBulkAll r
def uptoBulkEntries {H : Type} : List (Lit × DataW H) → Nat
  | [] => 0
  | x :: r => uptoBulkEntry x + uptoBulkEntries r
def uptoBulkEntry {H : Type} : Lit × DataW H → Nat
  | (.string bytes, d) => bytes.length + uptoBulk d + 1
  | (_, d) => uptoBulk d + 1
 end
def uptoSmall : (H : Type) → List (DataW H) → Bool := fun _ ds => decide (uptoBulkAll ds ≤ 1048576)
def OpenSpec.upto (s : _root_.Go.ChangeSpec) : _root_.Go.OpenSpec := { _root_.Go.OpenSpec.ofChange s with cond := some uptoSmall }

/-- 'hyphenlaw4.PartAll', WHERE WHAT IT READS IS OF BULK AT MOST 1048576: true; the input reads as it did. -/
def partAllUptoRow : OpenClaim := { program := "yteogcjckhoakbaa", sum := "80e23640dd3dce0b3c35439d88d4d57655510dd4e4624d61cdfd9ba46d33c1de", func := "hyphen/hyphenlaw4.PartAll", spec := "partAll", unfollowed := true, recurses := true, apart := false, narrowed := true }
def PartAllUptoSaid : Prop := partAllUptoRow.holds Try.pinned (OpenSpec.upto partAllSpec)

/-- 'hyphenlaw4.PartAlike', WHERE WHAT IT READS IS OF BULK AT MOST 1048576: true; the input reads as it did. -/
def partAlikeUptoRow : OpenClaim := { program := "yteogcjckhoakbaa", sum := "80e23640dd3dce0b3c35439d88d4d57655510dd4e4624d61cdfd9ba46d33c1de", func := "hyphen/hyphenlaw4.PartAlike", spec := "partAlike", unfollowed := true, recurses := true, apart := false, narrowed := true }
def PartAlikeUptoSaid : Prop := partAlikeUptoRow.holds Try.pinned (OpenSpec.upto partAlikeSpec)

/-- 'hyphenlaw4.PartSets', WHERE WHAT IT READS IS OF BULK AT MOST 1048576: true; the input reads as it did. -/
def partSetsUptoRow : OpenClaim := { program := "yteogcjckhoakbaa", sum := "80e23640dd3dce0b3c35439d88d4d57655510dd4e4624d61cdfd9ba46d33c1de", func := "hyphen/hyphenlaw4.PartSets", spec := "partSets", unfollowed := true, recurses := true, apart := false, narrowed := true }
def PartSetsUptoSaid : Prop := partSetsUptoRow.holds Try.pinned (OpenSpec.upto partSetsSpec)

/-- 'hyphenlaw4.PartFewest', WHERE WHAT IT READS IS OF BULK AT MOST 1048576: true; the input reads as it did. -/
def partFewestUptoRow : OpenClaim := { program := "yteogcjckhoakbaa", sum := "80e23640dd3dce0b3c35439d88d4d57655510dd4e4624d61cdfd9ba46d33c1de", func := "hyphen/hyphenlaw4.PartFewest", spec := "partFewest", unfollowed := true, recurses := true, apart := false, narrowed := true }
def PartFewestUptoSaid : Prop := partFewestUptoRow.holds Try.pinned (OpenSpec.upto partFewestSpec)

/-- 'hyphenlaw4.PartOrder', WHERE WHAT IT READS IS OF BULK AT MOST 1048576: true; the input reads as it did. -/
def partOrderUptoRow : OpenClaim := { program := "yteogcjckhoakbaa", sum := "80e23640dd3dce0b3c35439d88d4d57655510dd4e4624d61cdfd9ba46d33c1de", func := "hyphen/hyphenlaw4.PartOrder", spec := "partOrder", unfollowed := true, recurses := true, apart := false, narrowed := true }
def PartOrderUptoSaid : Prop := partOrderUptoRow.holds Try.pinned (OpenSpec.upto partOrderSpec)

/-- 'hyphenlaw4.PartNot', WHERE WHAT IT READS IS OF BULK AT MOST 1048576: true; the input reads as it did. -/
def partNotUptoRow : OpenClaim := { program := "yteogcjckhoakbaa", sum := "80e23640dd3dce0b3c35439d88d4d57655510dd4e4624d61cdfd9ba46d33c1de", func := "hyphen/hyphenlaw4.PartNot", spec := "partNot", unfollowed := true, recurses := true, apart := false, narrowed := true }
def PartNotUptoSaid : Prop := partNotUptoRow.holds Try.pinned (OpenSpec.upto partNotSpec)

/-- 'hyphenlaw4.PartMore', WHERE WHAT IT READS IS OF BULK AT MOST 1048576: true; the input reads as it did. -/
def partMoreUptoRow : OpenClaim := { program := "yteogcjckhoakbaa", sum := "80e23640dd3dce0b3c35439d88d4d57655510dd4e4624d61cdfd9ba46d33c1de", func := "hyphen/hyphenlaw4.PartMore", spec := "partMore", unfollowed := true, recurses := true, apart := false, narrowed := true }
def PartMoreUptoSaid : Prop := partMoreUptoRow.holds Try.pinned (OpenSpec.upto partMoreSpec)

/-- 'hyphenlaw4.PartWalk', WHERE WHAT IT READS IS OF BULK AT MOST 1048576: true; the input reads as it did. -/
def partWalkUptoRow : OpenClaim := { program := "yteogcjckhoakbaa", sum := "80e23640dd3dce0b3c35439d88d4d57655510dd4e4624d61cdfd9ba46d33c1de", func := "hyphen/hyphenlaw4.PartWalk", spec := "partWalk", unfollowed := true, recurses := true, apart := false, narrowed := true }
def PartWalkUptoSaid : Prop := partWalkUptoRow.holds Try.pinned (OpenSpec.upto partWalkSpec)

end Rows
end Go.Proofs.Yteogcjckhoakbaa
