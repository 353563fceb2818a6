/-
  NARROWER THAN 'FOR EVERY INPUT', by the rows' own cells (each row's printed sentence says how): SideAll: loops · SideSizes: loops · SideCats: loops · SideAlts: loops · SideWeights: loops · SideStars: loops.
  DERIVED. THE GIVEN ROWS OF THIS SEAT. 7 by the template 'for every input the law returns true; each argument reads behind the call as it read before'; 0 by the template 'total and deterministic' (their statements: YtnnpfgpfkningaaTotals.lean).
  GIVEN WITH THE SEED: the statements are not yours to turn. If you find one false, say at which input.
  Laid BY PROGRAM, IN A SANDBOX (cutbox-rows.mjs): the forced cells as the released guide's own fill.sh prints them over the translation 2c8a7deab3e4a7f8… (all of the seat's roots in one cut). By AI agents, Wed Nov 11 2026. No macro, syntax, notation, axiom, sorry.
-/
import Derived.Test.YtnnpfgpfkningaaChecked
import GoSem.Claim
import GoSem.ClaimJoined
import GoSem.ClaimMapViews
import Derived.JoinedTies
import Derived.KernelRfl
namespace Go.Proofs.Ytnnpfgpfkningaa
/- THE CELL 'sum', in the pinned program and in every row, IS THE sha256 OF THE DUMP (.gsa) THAT YtnnpfgpfkningaaProg.lean LOADS. Nothing in Lean hashes anything: it is a label: what it is worth is what the hold of that sum in a sandbox is worth. -/
noncomputable def Try.pinned : Pinned := { name := "ytnnpfgpfkningaa", sum := "2c8a7deab3e4a7f8c66adc9a627050f42d81c281241fb83fa368781b551f8b35", checked := Try.checked }
namespace Rows
def none {H : Type} : Left H := { results := [], args := [] }

/-- 'hyphenlaw7.SideAll': WHATEVER THE INPUT: true; the input reads as it did. -/
def sideAllSpec : ChangeSpec := { name := "sideAll", fn := fun _ => fun
  | [d1, d2] => { results := [.lit (.bool true)], args := [d1, d2] }
  | _ => none }
def sideAllRow : OpenClaim := { program := "ytnnpfgpfkningaa", sum := "2c8a7deab3e4a7f8c66adc9a627050f42d81c281241fb83fa368781b551f8b35", func := "hyphen/hyphenlaw7.SideAll", spec := "sideAll", unfollowed := true, recurses := true, loops := true, plainKeys := false, apart := false }
def SideAllSaid : Prop := sideAllRow.holds Try.pinned (OpenSpec.ofChange sideAllSpec)

/-- ITS FALSE NEIGHBOUR: 'it returns false'. Refute it at one input. -/
def sideAllWrong : ChangeSpec := { name := "sideAll", fn := fun _ => fun
  | [d1, d2] => { results := [.lit (.bool false)], args := [d1, d2] }
  | _ => none }
def SideAllWrongFalsely : Prop := sideAllRow.holds Try.pinned (OpenSpec.ofChange sideAllWrong)

/-- 'hyphenlaw7.SideSizes': WHATEVER THE INPUT: true; the input reads as it did. -/
def sideSizesSpec : ChangeSpec := { name := "sideSizes", fn := fun _ => fun
  | [d1, d2, d3] => { results := [.lit (.bool true)], args := [d1, d2, d3] }
  | _ => none }
def sideSizesRow : OpenClaim := { program := "ytnnpfgpfkningaa", sum := "2c8a7deab3e4a7f8c66adc9a627050f42d81c281241fb83fa368781b551f8b35", func := "hyphen/hyphenlaw7.SideSizes", spec := "sideSizes", unfollowed := true, recurses := true, loops := true, plainKeys := false, apart := false }
def SideSizesSaid : Prop := sideSizesRow.holds Try.pinned (OpenSpec.ofChange sideSizesSpec)

/-- ITS FALSE NEIGHBOUR: 'it returns false'. Refute it at one input. -/
def sideSizesWrong : ChangeSpec := { name := "sideSizes", fn := fun _ => fun
  | [d1, d2, d3] => { results := [.lit (.bool false)], args := [d1, d2, d3] }
  | _ => none }
def SideSizesWrongFalsely : Prop := sideSizesRow.holds Try.pinned (OpenSpec.ofChange sideSizesWrong)

/-- 'hyphenlaw7.SideLarge': WHATEVER THE INPUT: true; the input reads as it did. -/
def sideLargeSpec : ChangeSpec := { name := "sideLarge", fn := fun _ => fun
  | [d1, d2, d3] => { results := [.lit (.bool true)], args := [d1, d2, d3] }
  | _ => none }
def sideLargeRow : OpenClaim := { program := "ytnnpfgpfkningaa", sum := "2c8a7deab3e4a7f8c66adc9a627050f42d81c281241fb83fa368781b551f8b35", func := "hyphen/hyphenlaw7.SideLarge", spec := "sideLarge", unfollowed := true, recurses := true, plainKeys := false, apart := false }
def SideLargeSaid : Prop := sideLargeRow.holds Try.pinned (OpenSpec.ofChange sideLargeSpec)

/-- ITS FALSE NEIGHBOUR: 'it returns false'. Refute it at one input. -/
def sideLargeWrong : ChangeSpec := { name := "sideLarge", fn := fun _ => fun
  | [d1, d2, d3] => { results := [.lit (.bool false)], args := [d1, d2, d3] }
  | _ => none }
def SideLargeWrongFalsely : Prop := sideLargeRow.holds Try.pinned (OpenSpec.ofChange sideLargeWrong)

/-- 'hyphenlaw7.SideCats': WHATEVER THE INPUT: true; the input reads as it did. -/
def sideCatsSpec : ChangeSpec := { name := "sideCats", fn := fun _ => fun
  | [d] => { results := [.lit (.bool true)], args := [d] }
  | _ => none }
def sideCatsRow : OpenClaim := { program := "ytnnpfgpfkningaa", sum := "2c8a7deab3e4a7f8c66adc9a627050f42d81c281241fb83fa368781b551f8b35", func := "hyphen/hyphenlaw7.SideCats", spec := "sideCats", unfollowed := true, recurses := true, loops := true, plainKeys := false, apart := false }
def SideCatsSaid : Prop := sideCatsRow.holds Try.pinned (OpenSpec.ofChange sideCatsSpec)

/-- ITS FALSE NEIGHBOUR: 'it returns false'. Refute it at one input. -/
def sideCatsWrong : ChangeSpec := { name := "sideCats", fn := fun _ => fun
  | [d] => { results := [.lit (.bool false)], args := [d] }
  | _ => none }
def SideCatsWrongFalsely : Prop := sideCatsRow.holds Try.pinned (OpenSpec.ofChange sideCatsWrong)

/-- 'hyphenlaw7.SideAlts': WHATEVER THE INPUT: true; the input reads as it did. -/
def sideAltsSpec : ChangeSpec := { name := "sideAlts", fn := fun _ => fun
  | [d] => { results := [.lit (.bool true)], args := [d] }
  | _ => none }
def sideAltsRow : OpenClaim := { program := "ytnnpfgpfkningaa", sum := "2c8a7deab3e4a7f8c66adc9a627050f42d81c281241fb83fa368781b551f8b35", func := "hyphen/hyphenlaw7.SideAlts", spec := "sideAlts", unfollowed := true, recurses := true, loops := true, plainKeys := false, apart := false }
def SideAltsSaid : Prop := sideAltsRow.holds Try.pinned (OpenSpec.ofChange sideAltsSpec)

/-- ITS FALSE NEIGHBOUR: 'it returns false'. Refute it at one input. -/
def sideAltsWrong : ChangeSpec := { name := "sideAlts", fn := fun _ => fun
  | [d] => { results := [.lit (.bool false)], args := [d] }
  | _ => none }
def SideAltsWrongFalsely : Prop := sideAltsRow.holds Try.pinned (OpenSpec.ofChange sideAltsWrong)

/-- 'hyphenlaw7.SideWeights': WHATEVER THE INPUT: true; the input reads as it did. -/
def sideWeightsSpec : ChangeSpec := { name := "sideWeights", fn := fun _ => fun
  | [d1, d2] => { results := [.lit (.bool true)], args := [d1, d2] }
  | _ => none }
def sideWeightsRow : OpenClaim := { program := "ytnnpfgpfkningaa", sum := "2c8a7deab3e4a7f8c66adc9a627050f42d81c281241fb83fa368781b551f8b35", func := "hyphen/hyphenlaw7.SideWeights", spec := "sideWeights", unfollowed := true, recurses := true, loops := true, plainKeys := false, apart := false }
def SideWeightsSaid : Prop := sideWeightsRow.holds Try.pinned (OpenSpec.ofChange sideWeightsSpec)

/-- ITS FALSE NEIGHBOUR: 'it returns false'. Refute it at one input. -/
def sideWeightsWrong : ChangeSpec := { name := "sideWeights", fn := fun _ => fun
  | [d1, d2] => { results := [.lit (.bool false)], args := [d1, d2] }
  | _ => none }
def SideWeightsWrongFalsely : Prop := sideWeightsRow.holds Try.pinned (OpenSpec.ofChange sideWeightsWrong)

/-- 'hyphenlaw7.SideStars': WHATEVER THE INPUT: true; the input reads as it did. -/
def sideStarsSpec : ChangeSpec := { name := "sideStars", fn := fun _ => fun
  | [d] => { results := [.lit (.bool true)], args := [d] }
  | _ => none }
def sideStarsRow : OpenClaim := { program := "ytnnpfgpfkningaa", sum := "2c8a7deab3e4a7f8c66adc9a627050f42d81c281241fb83fa368781b551f8b35", func := "hyphen/hyphenlaw7.SideStars", spec := "sideStars", unfollowed := true, recurses := true, loops := true, plainKeys := false, apart := false }
def SideStarsSaid : Prop := sideStarsRow.holds Try.pinned (OpenSpec.ofChange sideStarsSpec)

/-- ITS FALSE NEIGHBOUR: 'it returns false'. Refute it at one input. -/
def sideStarsWrong : ChangeSpec := { name := "sideStars", fn := fun _ => fun
  | [d] => { results := [.lit (.bool false)], args := [d] }
  | _ => none }
def SideStarsWrongFalsely : Prop := sideStarsRow.holds Try.pinned (OpenSpec.ofChange sideStarsWrong)

/- THE SECOND FORM. 'bulk': how many values and letters a reading holds, each counted each time it is reached (what is shared counts as often as it is met; a slice's spare places count too). A statement '..UptoSaid' is the law's where the arguments, and the package variables that the reading takes, are together of bulk at most 1048576: NARROWER than '..Said'. Prove '..Said' where nothing that the law and all that it calls make is longer than what came in: it says more and counts as full. Else prove '..UptoSaid'. A law counts once. -/
mutual
def uptoBulk {H : Type} : DataW H → Nat
  | .lit (.string bytes) => bytes.length + 1
  | .lit _ => 1
  | .nil => 1
  | .ptr d => uptoBulk d + 1
  | .slice elems spare => uptoBulkAll elems + uptoBulkAll spare + 1
  | .agg parts => uptoBulkAll parts + 1
  | .iface _ d => uptoBulk d + 1
  | .map entries => uptoBulkEntries entries + 1
  | .held _ => 1
def uptoBulkAll {H : Type} : List (DataW H) → Nat
  | [] => 0
  | d :: r => uptoBulk d + uptoBulkAll r
def uptoBulkEntries {H : Type} : List (Lit × DataW H) → Nat
  | [] => 0
  | x :: r => uptoBulkEntry x + uptoBulkEntries r
def uptoBulkEntry {H : Type} : Lit × DataW H → Nat
  | (.string bytes, d) => bytes.length + uptoBulk d + 1
  | (_, d) => uptoBulk d + 1
 end
def uptoSmall : (H : Type) → List (DataW H) → Bool := fun _ ds => decide (uptoBulkAll ds ≤ 1048576)
def OpenSpec.upto (s : _root_.Go.ChangeSpec) : _root_.Go.OpenSpec := { _root_.Go.OpenSpec.ofChange s with cond := some uptoSmall }

/-- 'hyphenlaw7.SideAll', WHERE WHAT IT READS IS OF BULK AT MOST 1048576: true; the input reads as it did. -/
def sideAllUptoRow : OpenClaim := { program := "ytnnpfgpfkningaa", sum := "2c8a7deab3e4a7f8c66adc9a627050f42d81c281241fb83fa368781b551f8b35", func := "hyphen/hyphenlaw7.SideAll", spec := "sideAll", unfollowed := true, recurses := true, loops := true, plainKeys := false, apart := false, narrowed := true }
def SideAllUptoSaid : Prop := sideAllUptoRow.holds Try.pinned (OpenSpec.upto sideAllSpec)

/-- 'hyphenlaw7.SideSizes', WHERE WHAT IT READS IS OF BULK AT MOST 1048576: true; the input reads as it did. -/
def sideSizesUptoRow : OpenClaim := { program := "ytnnpfgpfkningaa", sum := "2c8a7deab3e4a7f8c66adc9a627050f42d81c281241fb83fa368781b551f8b35", func := "hyphen/hyphenlaw7.SideSizes", spec := "sideSizes", unfollowed := true, recurses := true, loops := true, plainKeys := false, apart := false, narrowed := true }
def SideSizesUptoSaid : Prop := sideSizesUptoRow.holds Try.pinned (OpenSpec.upto sideSizesSpec)

/-- 'hyphenlaw7.SideLarge', WHERE WHAT IT READS IS OF BULK AT MOST 1048576: true; the input reads as it did. -/
def sideLargeUptoRow : OpenClaim := { program := "ytnnpfgpfkningaa", sum := "2c8a7deab3e4a7f8c66adc9a627050f42d81c281241fb83fa368781b551f8b35", func := "hyphen/hyphenlaw7.SideLarge", spec := "sideLarge", unfollowed := true, recurses := true, plainKeys := false, apart := false, narrowed := true }
def SideLargeUptoSaid : Prop := sideLargeUptoRow.holds Try.pinned (OpenSpec.upto sideLargeSpec)

/-- 'hyphenlaw7.SideCats', WHERE WHAT IT READS IS OF BULK AT MOST 1048576: true; the input reads as it did. -/
def sideCatsUptoRow : OpenClaim := { program := "ytnnpfgpfkningaa", sum := "2c8a7deab3e4a7f8c66adc9a627050f42d81c281241fb83fa368781b551f8b35", func := "hyphen/hyphenlaw7.SideCats", spec := "sideCats", unfollowed := true, recurses := true, loops := true, plainKeys := false, apart := false, narrowed := true }
def SideCatsUptoSaid : Prop := sideCatsUptoRow.holds Try.pinned (OpenSpec.upto sideCatsSpec)

/-- 'hyphenlaw7.SideAlts', WHERE WHAT IT READS IS OF BULK AT MOST 1048576: true; the input reads as it did. -/
def sideAltsUptoRow : OpenClaim := { program := "ytnnpfgpfkningaa", sum := "2c8a7deab3e4a7f8c66adc9a627050f42d81c281241fb83fa368781b551f8b35", func := "hyphen/hyphenlaw7.SideAlts", spec := "sideAlts", unfollowed := true, recurses := true, loops := true, plainKeys := false, apart := false, narrowed := true }
def SideAltsUptoSaid : Prop := sideAltsUptoRow.holds Try.pinned (OpenSpec.upto sideAltsSpec)

/-- 'hyphenlaw7.SideWeights', WHERE WHAT IT READS IS OF BULK AT MOST 1048576: true; the input reads as it did. -/
def sideWeightsUptoRow : OpenClaim := { program := "ytnnpfgpfkningaa", sum := "2c8a7deab3e4a7f8c66adc9a627050f42d81c281241fb83fa368781b551f8b35", func := "hyphen/hyphenlaw7.SideWeights", spec := "sideWeights", unfollowed := true, recurses := true, loops := true, plainKeys := false, apart := false, narrowed := true }
def SideWeightsUptoSaid : Prop := sideWeightsUptoRow.holds Try.pinned (OpenSpec.upto sideWeightsSpec)

/-- 'hyphenlaw7.SideStars', WHERE WHAT IT READS IS OF BULK AT MOST 1048576: true; the input reads as it did. -/
def sideStarsUptoRow : OpenClaim := { program := "ytnnpfgpfkningaa", sum := "2c8a7deab3e4a7f8c66adc9a627050f42d81c281241fb83fa368781b551f8b35", func := "hyphen/hyphenlaw7.SideStars", spec := "sideStars", unfollowed := true, recurses := true, loops := true, plainKeys := false, apart := false, narrowed := true }
def SideStarsUptoSaid : Prop := sideStarsUptoRow.holds Try.pinned (OpenSpec.upto sideStarsSpec)

end Rows
end Go.Proofs.Ytnnpfgpfkningaa
