/-
  No cell of these rows narrows 'for every input' (looked for: loops, veiled, ifaces, maps, wideKeys, modest, calm, conditions, laid).
  DERIVED. THE GIVEN ROWS OF THIS SEAT. 9 by the template 'for every input the law returns true; each argument reads behind the call as it read before'; 0 by the template 'total and deterministic' (their statements: YtdmmofhmhpnjpaaTotals.lean).
  GIVEN WITH THE SEED: the statements are not yours to turn. If you find one false, say at which input.
  Laid BY PROGRAM, IN A SANDBOX (cutbox-rows.mjs): the forced cells as the released guide's own fill.sh prints them over the translation 28056701b83093eb… (all of the seat's roots in one cut). By AI agents, Wed Nov 11 2026. No macro, syntax, notation, axiom, sorry.
-/
import Derived.Test.YtdmmofhmhpnjpaaChecked
import GoSem.Claim
import GoSem.ClaimJoined
import GoSem.ClaimMapViews
import Derived.JoinedTies
import Derived.KernelRfl
namespace Go.Proofs.Ytdmmofhmhpnjpaa
/- THE CELL 'sum', in the pinned program and in every row, IS THE sha256 OF THE DUMP (.gsa) THAT YtdmmofhmhpnjpaaProg.lean LOADS. Nothing in Lean hashes anything: it is a label: what it is worth is what the hold of that sum in a sandbox is worth. -/
noncomputable def Try.pinned : Pinned := { name := "ytdmmofhmhpnjpaa", sum := "28056701b83093ebd1bd931e83e02a17a133cc17ae61dad3880093e8f69e42b0", checked := Try.checked }
namespace Rows
def none {H : Type} : Left H := { results := [], args := [] }

/-- 'hyphenlaw3.SetNorms': WHATEVER THE INPUT: true; the input reads as it did. -/
def setNormsSpec : ChangeSpec := { name := "setNorms", fn := fun _ => fun
  | [d1, d2, d3, d4] => { results := [.lit (.bool true)], args := [d1, d2, d3, d4] }
  | _ => none }
def setNormsRow : OpenClaim := { program := "ytdmmofhmhpnjpaa", sum := "28056701b83093ebd1bd931e83e02a17a133cc17ae61dad3880093e8f69e42b0", func := "hyphen/hyphenlaw3.SetNorms", spec := "setNorms", unfollowed := true, recurses := true, apart := false }
def SetNormsSaid : Prop := setNormsRow.holds Try.pinned (OpenSpec.ofChange setNormsSpec)

/-- ITS FALSE NEIGHBOUR: 'it returns false'. Refute it at one input. -/
def setNormsWrong : ChangeSpec := { name := "setNorms", fn := fun _ => fun
  | [d1, d2, d3, d4] => { results := [.lit (.bool false)], args := [d1, d2, d3, d4] }
  | _ => none }
def SetNormsWrongFalsely : Prop := setNormsRow.holds Try.pinned (OpenSpec.ofChange setNormsWrong)

/-- 'hyphenlaw3.SetOps': WHATEVER THE INPUT: true; the input reads as it did. -/
def setOpsSpec : ChangeSpec := { name := "setOps", fn := fun _ => fun
  | [d1, d2, d3, d4] => { results := [.lit (.bool true)], args := [d1, d2, d3, d4] }
  | _ => none }
def setOpsRow : OpenClaim := { program := "ytdmmofhmhpnjpaa", sum := "28056701b83093ebd1bd931e83e02a17a133cc17ae61dad3880093e8f69e42b0", func := "hyphen/hyphenlaw3.SetOps", spec := "setOps", unfollowed := true, recurses := true, apart := false }
def SetOpsSaid : Prop := setOpsRow.holds Try.pinned (OpenSpec.ofChange setOpsSpec)

/-- ITS FALSE NEIGHBOUR: 'it returns false'. Refute it at one input. -/
def setOpsWrong : ChangeSpec := { name := "setOps", fn := fun _ => fun
  | [d1, d2, d3, d4] => { results := [.lit (.bool false)], args := [d1, d2, d3, d4] }
  | _ => none }
def SetOpsWrongFalsely : Prop := setOpsRow.holds Try.pinned (OpenSpec.ofChange setOpsWrong)

/-- 'hyphenlaw3.SetLaws': WHATEVER THE INPUT: true; the input reads as it did. -/
def setLawsSpec : ChangeSpec := { name := "setLaws", fn := fun _ => fun
  | [d1, d2, d3] => { results := [.lit (.bool true)], args := [d1, d2, d3] }
  | _ => none }
def setLawsRow : OpenClaim := { program := "ytdmmofhmhpnjpaa", sum := "28056701b83093ebd1bd931e83e02a17a133cc17ae61dad3880093e8f69e42b0", func := "hyphen/hyphenlaw3.SetLaws", spec := "setLaws", unfollowed := true, recurses := true, apart := false }
def SetLawsSaid : Prop := setLawsRow.holds Try.pinned (OpenSpec.ofChange setLawsSpec)

/-- ITS FALSE NEIGHBOUR: 'it returns false'. Refute it at one input. -/
def setLawsWrong : ChangeSpec := { name := "setLaws", fn := fun _ => fun
  | [d1, d2, d3] => { results := [.lit (.bool false)], args := [d1, d2, d3] }
  | _ => none }
def SetLawsWrongFalsely : Prop := setLawsRow.holds Try.pinned (OpenSpec.ofChange setLawsWrong)

/-- 'hyphenlaw3.SetRight': WHATEVER THE INPUT: true; the input reads as it did. -/
def setRightSpec : ChangeSpec := { name := "setRight", fn := fun _ => fun
  | [d1, d2, d3, d4, d5, d6] => { results := [.lit (.bool true)], args := [d1, d2, d3, d4, d5, d6] }
  | _ => none }
def setRightRow : OpenClaim := { program := "ytdmmofhmhpnjpaa", sum := "28056701b83093ebd1bd931e83e02a17a133cc17ae61dad3880093e8f69e42b0", func := "hyphen/hyphenlaw3.SetRight", spec := "setRight", unfollowed := true, recurses := true, apart := false }
def SetRightSaid : Prop := setRightRow.holds Try.pinned (OpenSpec.ofChange setRightSpec)

/-- ITS FALSE NEIGHBOUR: 'it returns false'. Refute it at one input. -/
def setRightWrong : ChangeSpec := { name := "setRight", fn := fun _ => fun
  | [d1, d2, d3, d4, d5, d6] => { results := [.lit (.bool false)], args := [d1, d2, d3, d4, d5, d6] }
  | _ => none }
def SetRightWrongFalsely : Prop := setRightRow.holds Try.pinned (OpenSpec.ofChange setRightWrong)

/-- 'hyphenlaw3.SetOwn': WHATEVER THE INPUT: true; the input reads as it did. -/
def setOwnSpec : ChangeSpec := { name := "setOwn", fn := fun _ => fun
  | [d1, d2, d3] => { results := [.lit (.bool true)], args := [d1, d2, d3] }
  | _ => none }
def setOwnRow : OpenClaim := { program := "ytdmmofhmhpnjpaa", sum := "28056701b83093ebd1bd931e83e02a17a133cc17ae61dad3880093e8f69e42b0", func := "hyphen/hyphenlaw3.SetOwn", spec := "setOwn", unfollowed := true, recurses := true, apart := false }
def SetOwnSaid : Prop := setOwnRow.holds Try.pinned (OpenSpec.ofChange setOwnSpec)

/-- ITS FALSE NEIGHBOUR: 'it returns false'. Refute it at one input. -/
def setOwnWrong : ChangeSpec := { name := "setOwn", fn := fun _ => fun
  | [d1, d2, d3] => { results := [.lit (.bool false)], args := [d1, d2, d3] }
  | _ => none }
def SetOwnWrongFalsely : Prop := setOwnRow.holds Try.pinned (OpenSpec.ofChange setOwnWrong)

/-- 'hyphenlaw3.SetMany': WHATEVER THE INPUT: true; the input reads as it did. -/
def setManySpec : ChangeSpec := { name := "setMany", fn := fun _ => fun
  | [d1, d2, d3, d4] => { results := [.lit (.bool true)], args := [d1, d2, d3, d4] }
  | _ => none }
def setManyRow : OpenClaim := { program := "ytdmmofhmhpnjpaa", sum := "28056701b83093ebd1bd931e83e02a17a133cc17ae61dad3880093e8f69e42b0", func := "hyphen/hyphenlaw3.SetMany", spec := "setMany", unfollowed := true, recurses := true, apart := false }
def SetManySaid : Prop := setManyRow.holds Try.pinned (OpenSpec.ofChange setManySpec)

/-- ITS FALSE NEIGHBOUR: 'it returns false'. Refute it at one input. -/
def setManyWrong : ChangeSpec := { name := "setMany", fn := fun _ => fun
  | [d1, d2, d3, d4] => { results := [.lit (.bool false)], args := [d1, d2, d3, d4] }
  | _ => none }
def SetManyWrongFalsely : Prop := setManyRow.holds Try.pinned (OpenSpec.ofChange setManyWrong)

/-- 'hyphenlaw3.SetParts': WHATEVER THE INPUT: true; the input reads as it did. -/
def setPartsSpec : ChangeSpec := { name := "setParts", fn := fun _ => fun
  | [d1, d2] => { results := [.lit (.bool true)], args := [d1, d2] }
  | _ => none }
def setPartsRow : OpenClaim := { program := "ytdmmofhmhpnjpaa", sum := "28056701b83093ebd1bd931e83e02a17a133cc17ae61dad3880093e8f69e42b0", func := "hyphen/hyphenlaw3.SetParts", spec := "setParts", unfollowed := true, recurses := true, apart := false }
def SetPartsSaid : Prop := setPartsRow.holds Try.pinned (OpenSpec.ofChange setPartsSpec)

/-- ITS FALSE NEIGHBOUR: 'it returns false'. Refute it at one input. -/
def setPartsWrong : ChangeSpec := { name := "setParts", fn := fun _ => fun
  | [d1, d2] => { results := [.lit (.bool false)], args := [d1, d2] }
  | _ => none }
def SetPartsWrongFalsely : Prop := setPartsRow.holds Try.pinned (OpenSpec.ofChange setPartsWrong)

/-- 'hyphenlaw3.SetSizes': WHATEVER THE INPUT: true; the input reads as it did. -/
def setSizesSpec : ChangeSpec := { name := "setSizes", fn := fun _ => fun
  | [d] => { results := [.lit (.bool true)], args := [d] }
  | _ => none }
def setSizesRow : OpenClaim := { program := "ytdmmofhmhpnjpaa", sum := "28056701b83093ebd1bd931e83e02a17a133cc17ae61dad3880093e8f69e42b0", func := "hyphen/hyphenlaw3.SetSizes", spec := "setSizes", unfollowed := true, recurses := true, apart := false }
def SetSizesSaid : Prop := setSizesRow.holds Try.pinned (OpenSpec.ofChange setSizesSpec)

/-- ITS FALSE NEIGHBOUR: 'it returns false'. Refute it at one input. -/
def setSizesWrong : ChangeSpec := { name := "setSizes", fn := fun _ => fun
  | [d] => { results := [.lit (.bool false)], args := [d] }
  | _ => none }
def SetSizesWrongFalsely : Prop := setSizesRow.holds Try.pinned (OpenSpec.ofChange setSizesWrong)

/-- 'hyphenlaw3.SetEdges': WHATEVER THE INPUT: true; the input reads as it did. -/
def setEdgesSpec : ChangeSpec := { name := "setEdges", fn := fun _ => fun
  | [d] => { results := [.lit (.bool true)], args := [d] }
  | _ => none }
def setEdgesRow : OpenClaim := { program := "ytdmmofhmhpnjpaa", sum := "28056701b83093ebd1bd931e83e02a17a133cc17ae61dad3880093e8f69e42b0", func := "hyphen/hyphenlaw3.SetEdges", spec := "setEdges", unfollowed := true, recurses := true, apart := false }
def SetEdgesSaid : Prop := setEdgesRow.holds Try.pinned (OpenSpec.ofChange setEdgesSpec)

/-- ITS FALSE NEIGHBOUR: 'it returns false'. Refute it at one input. -/
def setEdgesWrong : ChangeSpec := { name := "setEdges", fn := fun _ => fun
  | [d] => { results := [.lit (.bool false)], args := [d] }
  | _ => none }
def SetEdgesWrongFalsely : Prop := setEdgesRow.holds Try.pinned (OpenSpec.ofChange setEdgesWrong)

/- THE SECOND FORM. 'bulk': how many values and letters a reading holds, each counted each time it is reached (what is shared counts as often as it is met; a slice's spare places count too). A statement '..UptoSaid' is the law's where the arguments, and the package variables that the reading takes, are together of bulk at most 1048576: NARROWER than '..Said'. Prove '..Said' where nothing that the law and all that it calls make is longer than what came in: it says more and counts as full. Else prove '..UptoSaid'. A law counts once. -/
mutual
def uptoBulk {H : Type} : DataW H → Nat
  | .lit (.string bytes) => bytes.length + 1
  | .lit _ => 1
  | .nil => 1
  | .ptr d => uptoBulk d + 1
  | .slice elems spare => uptoBulkAll elems + uptoBulkAll spare + 1
  | .agg parts => uptoBulkAll parts + 1
  | .iface _ d => uptoBulk d + 1
  | .map entries => uptoBulkEntries entries + 1
  | .held _ => 1
def uptoBulkAll {H : Type} : List (DataW H) → Nat
  | [] => 0
  | d :: r => uptoBulk d + uptoBulkAll r
def uptoBulkEntries {H : Type} : List (Lit × DataW H) → Nat
  | [] => 0
  | x :: r => uptoBulkEntry x + uptoBulkEntries r
def uptoBulkEntry {H : Type} : Lit × DataW H → Nat
  | (.string bytes, d) => bytes.length + uptoBulk d + 1
  | (_, d) => uptoBulk d + 1
 end
def uptoSmall : (H : Type) → List (DataW H) → Bool := fun _ ds => decide (uptoBulkAll ds ≤ 1048576)
def OpenSpec.upto (s : _root_.Go.ChangeSpec) : _root_.Go.OpenSpec := { _root_.Go.OpenSpec.ofChange s with cond := some uptoSmall }

/-- 'hyphenlaw3.SetNorms', WHERE WHAT IT READS IS OF BULK AT MOST 1048576: true; the input reads as it did. -/
def setNormsUptoRow : OpenClaim := { program := "ytdmmofhmhpnjpaa", sum := "28056701b83093ebd1bd931e83e02a17a133cc17ae61dad3880093e8f69e42b0", func := "hyphen/hyphenlaw3.SetNorms", spec := "setNorms", unfollowed := true, recurses := true, apart := false, narrowed := true }
def SetNormsUptoSaid : Prop := setNormsUptoRow.holds Try.pinned (OpenSpec.upto setNormsSpec)

/-- 'hyphenlaw3.SetOps', WHERE WHAT IT READS IS OF BULK AT MOST 1048576: true; the input reads as it did. -/
def setOpsUptoRow : OpenClaim := { program := "ytdmmofhmhpnjpaa", sum := "28056701b83093ebd1bd931e83e02a17a133cc17ae61dad3880093e8f69e42b0", func := "hyphen/hyphenlaw3.SetOps", spec := "setOps", unfollowed := true, recurses := true, apart := false, narrowed := true }
def SetOpsUptoSaid : Prop := setOpsUptoRow.holds Try.pinned (OpenSpec.upto setOpsSpec)

/-- 'hyphenlaw3.SetLaws', WHERE WHAT IT READS IS OF BULK AT MOST 1048576: true; the input reads as it did. -/
def setLawsUptoRow : OpenClaim := { program := "ytdmmofhmhpnjpaa", sum := "28056701b83093ebd1bd931e83e02a17a133cc17ae61dad3880093e8f69e42b0", func := "hyphen/hyphenlaw3.SetLaws", spec := "setLaws", unfollowed := true, recurses := true, apart := false, narrowed := true }
def SetLawsUptoSaid : Prop := setLawsUptoRow.holds Try.pinned (OpenSpec.upto setLawsSpec)

/-- 'hyphenlaw3.SetRight', WHERE WHAT IT READS IS OF BULK AT MOST 1048576: true; the input reads as it did. -/
def setRightUptoRow : OpenClaim := { program := "ytdmmofhmhpnjpaa", sum := "28056701b83093ebd1bd931e83e02a17a133cc17ae61dad3880093e8f69e42b0", func := "hyphen/hyphenlaw3.SetRight", spec := "setRight", unfollowed := true, recurses := true, apart := false, narrowed := true }
def SetRightUptoSaid : Prop := setRightUptoRow.holds Try.pinned (OpenSpec.upto setRightSpec)

/-- 'hyphenlaw3.SetOwn', WHERE WHAT IT READS IS OF BULK AT MOST 1048576: true; the input reads as it did. -/
def setOwnUptoRow : OpenClaim := { program := "ytdmmofhmhpnjpaa", sum := "28056701b83093ebd1bd931e83e02a17a133cc17ae61dad3880093e8f69e42b0", func := "hyphen/hyphenlaw3.SetOwn", spec := "setOwn", unfollowed := true, recurses := true, apart := false, narrowed := true }
def SetOwnUptoSaid : Prop := setOwnUptoRow.holds Try.pinned (OpenSpec.upto setOwnSpec)

/-- 'hyphenlaw3.SetMany', WHERE WHAT IT READS IS OF BULK AT MOST 1048576: true; the input reads as it did. -/
def setManyUptoRow : OpenClaim := { program := "ytdmmofhmhpnjpaa", sum := "28056701b83093ebd1bd931e83e02a17a133cc17ae61dad3880093e8f69e42b0", func := "hyphen/hyphenlaw3.SetMany", spec := "setMany", unfollowed := true, recurses := true, apart := false, narrowed := true }
def SetManyUptoSaid : Prop := setManyUptoRow.holds Try.pinned (OpenSpec.upto setManySpec)

/-- 'hyphenlaw3.SetParts', WHERE WHAT IT READS IS OF BULK AT MOST 1048576: true; the input reads as it did. -/
def setPartsUptoRow : OpenClaim := { program := "ytdmmofhmhpnjpaa", sum := "28056701b83093ebd1bd931e83e02a17a133cc17ae61dad3880093e8f69e42b0", func := "hyphen/hyphenlaw3.SetParts", spec := "setParts", unfollowed := true, recurses := true, apart := false, narrowed := true }
def SetPartsUptoSaid : Prop := setPartsUptoRow.holds Try.pinned (OpenSpec.upto setPartsSpec)

/-- 'hyphenlaw3.SetSizes', WHERE WHAT IT READS IS OF BULK AT MOST 1048576: true; the input reads as it did. -/
def setSizesUptoRow : OpenClaim := { program := "ytdmmofhmhpnjpaa", sum := "28056701b83093ebd1bd931e83e02a17a133cc17ae61dad3880093e8f69e42b0", func := "hyphen/hyphenlaw3.SetSizes", spec := "setSizes", unfollowed := true, recurses := true, apart := false, narrowed := true }
def SetSizesUptoSaid : Prop := setSizesUptoRow.holds Try.pinned (OpenSpec.upto setSizesSpec)

/-- 'hyphenlaw3.SetEdges', WHERE WHAT IT READS IS OF BULK AT MOST 1048576: true; the input reads as it did. -/
def setEdgesUptoRow : OpenClaim := { program := "ytdmmofhmhpnjpaa", sum := "28056701b83093ebd1bd931e83e02a17a133cc17ae61dad3880093e8f69e42b0", func := "hyphen/hyphenlaw3.SetEdges", spec := "setEdges", unfollowed := true, recurses := true, apart := false, narrowed := true }
def SetEdgesUptoSaid : Prop := setEdgesUptoRow.holds Try.pinned (OpenSpec.upto setEdgesSpec)

end Rows
end Go.Proofs.Ytdmmofhmhpnjpaa
