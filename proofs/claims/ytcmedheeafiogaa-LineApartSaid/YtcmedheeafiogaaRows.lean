/-
  No cell of these rows narrows 'for every input' (looked for: loops, veiled, ifaces, maps, wideKeys, modest, calm, conditions, laid).
  DERIVED. THE GIVEN ROWS OF THIS SEAT. 14 by the template 'for every input the law returns true; each argument reads behind the call as it read before'; 0 by the template 'total and deterministic' (their statements: YtcmedheeafiogaaTotals.lean).
  GIVEN WITH THE SEED: the statements are not yours to turn. If you find one false, say at which input.
  Laid BY PROGRAM, IN A SANDBOX (cutbox-rows.mjs): the forced cells as the released guide's own fill.sh prints them over the translation 93243f55f980dfa4… (all of the seat's roots in one cut). By AI agents, Wed Nov 11 2026. No macro, syntax, notation, axiom, sorry.
-/
import Derived.Test.YtcmedheeafiogaaChecked
import GoSem.Claim
import GoSem.ClaimJoined
import GoSem.ClaimMapViews
import Derived.JoinedTies
import Derived.KernelRfl
namespace Go.Proofs.Ytcmedheeafiogaa
/- THE CELL 'sum', in the pinned program and in every row, IS THE sha256 OF THE DUMP (.gsa) THAT YtcmedheeafiogaaProg.lean LOADS. Nothing in Lean hashes anything: it is a label: what it is worth is what the hold of that sum in a sandbox is worth. -/
noncomputable def Try.pinned : Pinned := { name := "ytcmedheeafiogaa", sum := "93243f55f980dfa4521aa79d00a954686b81114d47250086f18bc0684fcde03a", checked := Try.checked }
namespace Rows
def none {H : Type} : Left H := { results := [], args := [] }

/-- 'runaroundlaw11.PlaceTall': WHATEVER THE INPUT: true; the input reads as it did. -/
def placeTallSpec : ChangeSpec := { name := "placeTall", fn := fun _ => fun
  | [d1, d2, d3] => { results := [.lit (.bool true)], args := [d1, d2, d3] }
  | _ => none }
def placeTallRow : OpenClaim := { program := "ytcmedheeafiogaa", sum := "93243f55f980dfa4521aa79d00a954686b81114d47250086f18bc0684fcde03a", func := "runaround/runaroundlaw11.PlaceTall", spec := "placeTall", inPlace := ["slices.overlaps[runaround/shelf.Shelf]"], unfollowed := true, recurses := true, apart := false }
def PlaceTallSaid : Prop := placeTallRow.holds Try.pinned (OpenSpec.ofChange placeTallSpec)

/-- ITS FALSE NEIGHBOUR: 'it returns false'. Refute it at one input. -/
def placeTallWrong : ChangeSpec := { name := "placeTall", fn := fun _ => fun
  | [d1, d2, d3] => { results := [.lit (.bool false)], args := [d1, d2, d3] }
  | _ => none }
def PlaceTallWrongFalsely : Prop := placeTallRow.holds Try.pinned (OpenSpec.ofChange placeTallWrong)

/-- 'runaroundlaw13.LineGreedy': WHATEVER THE INPUT: true; the input reads as it did. -/
def lineGreedySpec : ChangeSpec := { name := "lineGreedy", fn := fun _ => fun
  | [d1, d2, d3, d4, d5] => { results := [.lit (.bool true)], args := [d1, d2, d3, d4, d5] }
  | _ => none }
def lineGreedyRow : OpenClaim := { program := "ytcmedheeafiogaa", sum := "93243f55f980dfa4521aa79d00a954686b81114d47250086f18bc0684fcde03a", func := "runaround/runaroundlaw13.LineGreedy", spec := "lineGreedy", inPlace := ["slices.overlaps[runaround/shelf.Shelf]"], unfollowed := true, recurses := true, apart := false }
def LineGreedySaid : Prop := lineGreedyRow.holds Try.pinned (OpenSpec.ofChange lineGreedySpec)

/-- ITS FALSE NEIGHBOUR: 'it returns false'. Refute it at one input. -/
def lineGreedyWrong : ChangeSpec := { name := "lineGreedy", fn := fun _ => fun
  | [d1, d2, d3, d4, d5] => { results := [.lit (.bool false)], args := [d1, d2, d3, d4, d5] }
  | _ => none }
def LineGreedyWrongFalsely : Prop := lineGreedyRow.holds Try.pinned (OpenSpec.ofChange lineGreedyWrong)

/-- 'runaroundlaw13.LineAlone': WHATEVER THE INPUT: true; the input reads as it did. -/
def lineAloneSpec : ChangeSpec := { name := "lineAlone", fn := fun _ => fun
  | [d1, d2, d3, d4] => { results := [.lit (.bool true)], args := [d1, d2, d3, d4] }
  | _ => none }
def lineAloneRow : OpenClaim := { program := "ytcmedheeafiogaa", sum := "93243f55f980dfa4521aa79d00a954686b81114d47250086f18bc0684fcde03a", func := "runaround/runaroundlaw13.LineAlone", spec := "lineAlone", inPlace := ["slices.overlaps[runaround/shelf.Shelf]"], unfollowed := true, recurses := true, apart := false }
def LineAloneSaid : Prop := lineAloneRow.holds Try.pinned (OpenSpec.ofChange lineAloneSpec)

/-- ITS FALSE NEIGHBOUR: 'it returns false'. Refute it at one input. -/
def lineAloneWrong : ChangeSpec := { name := "lineAlone", fn := fun _ => fun
  | [d1, d2, d3, d4] => { results := [.lit (.bool false)], args := [d1, d2, d3, d4] }
  | _ => none }
def LineAloneWrongFalsely : Prop := lineAloneRow.holds Try.pinned (OpenSpec.ofChange lineAloneWrong)

/-- 'runaroundlaw13.LineFirst': WHATEVER THE INPUT: true; the input reads as it did. -/
def lineFirstSpec : ChangeSpec := { name := "lineFirst", fn := fun _ => fun
  | [d1, d2, d3, d4, d5] => { results := [.lit (.bool true)], args := [d1, d2, d3, d4, d5] }
  | _ => none }
def lineFirstRow : OpenClaim := { program := "ytcmedheeafiogaa", sum := "93243f55f980dfa4521aa79d00a954686b81114d47250086f18bc0684fcde03a", func := "runaround/runaroundlaw13.LineFirst", spec := "lineFirst", inPlace := ["slices.overlaps[runaround/shelf.Shelf]"], unfollowed := true, recurses := true, apart := false }
def LineFirstSaid : Prop := lineFirstRow.holds Try.pinned (OpenSpec.ofChange lineFirstSpec)

/-- ITS FALSE NEIGHBOUR: 'it returns false'. Refute it at one input. -/
def lineFirstWrong : ChangeSpec := { name := "lineFirst", fn := fun _ => fun
  | [d1, d2, d3, d4, d5] => { results := [.lit (.bool false)], args := [d1, d2, d3, d4, d5] }
  | _ => none }
def LineFirstWrongFalsely : Prop := lineFirstRow.holds Try.pinned (OpenSpec.ofChange lineFirstWrong)

/-- 'runaroundlaw11.PlaceFinds': WHATEVER THE INPUT: true; the input reads as it did. -/
def placeFindsSpec : ChangeSpec := { name := "placeFinds", fn := fun _ => fun
  | [d1, d2, d3] => { results := [.lit (.bool true)], args := [d1, d2, d3] }
  | _ => none }
def placeFindsRow : OpenClaim := { program := "ytcmedheeafiogaa", sum := "93243f55f980dfa4521aa79d00a954686b81114d47250086f18bc0684fcde03a", func := "runaround/runaroundlaw11.PlaceFinds", spec := "placeFinds", inPlace := ["slices.overlaps[runaround/shelf.Shelf]"], unfollowed := true, recurses := true, apart := false }
def PlaceFindsSaid : Prop := placeFindsRow.holds Try.pinned (OpenSpec.ofChange placeFindsSpec)

/-- ITS FALSE NEIGHBOUR: 'it returns false'. Refute it at one input. -/
def placeFindsWrong : ChangeSpec := { name := "placeFinds", fn := fun _ => fun
  | [d1, d2, d3] => { results := [.lit (.bool false)], args := [d1, d2, d3] }
  | _ => none }
def PlaceFindsWrongFalsely : Prop := placeFindsRow.holds Try.pinned (OpenSpec.ofChange placeFindsWrong)

/-- 'runaroundlaw11.PlaceApart': WHATEVER THE INPUT: true; the input reads as it did. -/
def placeApartSpec : ChangeSpec := { name := "placeApart", fn := fun _ => fun
  | [d] => { results := [.lit (.bool true)], args := [d] }
  | _ => none }
def placeApartRow : OpenClaim := { program := "ytcmedheeafiogaa", sum := "93243f55f980dfa4521aa79d00a954686b81114d47250086f18bc0684fcde03a", func := "runaround/runaroundlaw11.PlaceApart", spec := "placeApart", inPlace := ["slices.overlaps[runaround/shelf.Shelf]"], unfollowed := true, recurses := true, apart := false }
def PlaceApartSaid : Prop := placeApartRow.holds Try.pinned (OpenSpec.ofChange placeApartSpec)

/-- ITS FALSE NEIGHBOUR: 'it returns false'. Refute it at one input. -/
def placeApartWrong : ChangeSpec := { name := "placeApart", fn := fun _ => fun
  | [d] => { results := [.lit (.bool false)], args := [d] }
  | _ => none }
def PlaceApartWrongFalsely : Prop := placeApartRow.holds Try.pinned (OpenSpec.ofChange placeApartWrong)

/-- 'runaroundlaw13.LineBreaks': WHATEVER THE INPUT: true; the input reads as it did. -/
def lineBreaksSpec : ChangeSpec := { name := "lineBreaks", fn := fun _ => fun
  | [d1, d2, d3, d4, d5] => { results := [.lit (.bool true)], args := [d1, d2, d3, d4, d5] }
  | _ => none }
def lineBreaksRow : OpenClaim := { program := "ytcmedheeafiogaa", sum := "93243f55f980dfa4521aa79d00a954686b81114d47250086f18bc0684fcde03a", func := "runaround/runaroundlaw13.LineBreaks", spec := "lineBreaks", inPlace := ["slices.overlaps[runaround/shelf.Shelf]"], unfollowed := true, recurses := true, apart := false }
def LineBreaksSaid : Prop := lineBreaksRow.holds Try.pinned (OpenSpec.ofChange lineBreaksSpec)

/-- ITS FALSE NEIGHBOUR: 'it returns false'. Refute it at one input. -/
def lineBreaksWrong : ChangeSpec := { name := "lineBreaks", fn := fun _ => fun
  | [d1, d2, d3, d4, d5] => { results := [.lit (.bool false)], args := [d1, d2, d3, d4, d5] }
  | _ => none }
def LineBreaksWrongFalsely : Prop := lineBreaksRow.holds Try.pinned (OpenSpec.ofChange lineBreaksWrong)

/-- 'runaroundlaw13.LineApart': WHATEVER THE INPUT: true; the input reads as it did. -/
def lineApartSpec : ChangeSpec := { name := "lineApart", fn := fun _ => fun
  | [d1, d2, d3, d4, d5] => { results := [.lit (.bool true)], args := [d1, d2, d3, d4, d5] }
  | _ => none }
def lineApartRow : OpenClaim := { program := "ytcmedheeafiogaa", sum := "93243f55f980dfa4521aa79d00a954686b81114d47250086f18bc0684fcde03a", func := "runaround/runaroundlaw13.LineApart", spec := "lineApart", inPlace := ["slices.overlaps[runaround/shelf.Shelf]"], unfollowed := true, recurses := true, apart := false }
def LineApartSaid : Prop := lineApartRow.holds Try.pinned (OpenSpec.ofChange lineApartSpec)

/-- ITS FALSE NEIGHBOUR: 'it returns false'. Refute it at one input. -/
def lineApartWrong : ChangeSpec := { name := "lineApart", fn := fun _ => fun
  | [d1, d2, d3, d4, d5] => { results := [.lit (.bool false)], args := [d1, d2, d3, d4, d5] }
  | _ => none }
def LineApartWrongFalsely : Prop := lineApartRow.holds Try.pinned (OpenSpec.ofChange lineApartWrong)

/-- 'runaroundlaw14.TextOrder': WHATEVER THE INPUT: true; the input reads as it did. -/
def textOrderSpec : ChangeSpec := { name := "textOrder", fn := fun _ => fun
  | [d1, d2, d3, d4, d5] => { results := [.lit (.bool true)], args := [d1, d2, d3, d4, d5] }
  | _ => none }
def textOrderRow : OpenClaim := { program := "ytcmedheeafiogaa", sum := "93243f55f980dfa4521aa79d00a954686b81114d47250086f18bc0684fcde03a", func := "runaround/runaroundlaw14.TextOrder", spec := "textOrder", inPlace := ["slices.overlaps[runaround/shelf.Shelf]"], unfollowed := true, recurses := true, apart := false }
def TextOrderSaid : Prop := textOrderRow.holds Try.pinned (OpenSpec.ofChange textOrderSpec)

/-- ITS FALSE NEIGHBOUR: 'it returns false'. Refute it at one input. -/
def textOrderWrong : ChangeSpec := { name := "textOrder", fn := fun _ => fun
  | [d1, d2, d3, d4, d5] => { results := [.lit (.bool false)], args := [d1, d2, d3, d4, d5] }
  | _ => none }
def TextOrderWrongFalsely : Prop := textOrderRow.holds Try.pinned (OpenSpec.ofChange textOrderWrong)

/-- 'runaroundlaw14.TextFloats': WHATEVER THE INPUT: true; the input reads as it did. -/
def textFloatsSpec : ChangeSpec := { name := "textFloats", fn := fun _ => fun
  | [d1, d2, d3, d4, d5] => { results := [.lit (.bool true)], args := [d1, d2, d3, d4, d5] }
  | _ => none }
def textFloatsRow : OpenClaim := { program := "ytcmedheeafiogaa", sum := "93243f55f980dfa4521aa79d00a954686b81114d47250086f18bc0684fcde03a", func := "runaround/runaroundlaw14.TextFloats", spec := "textFloats", inPlace := ["slices.overlaps[runaround/shelf.Shelf]"], unfollowed := true, recurses := true, apart := false }
def TextFloatsSaid : Prop := textFloatsRow.holds Try.pinned (OpenSpec.ofChange textFloatsSpec)

/-- ITS FALSE NEIGHBOUR: 'it returns false'. Refute it at one input. -/
def textFloatsWrong : ChangeSpec := { name := "textFloats", fn := fun _ => fun
  | [d1, d2, d3, d4, d5] => { results := [.lit (.bool false)], args := [d1, d2, d3, d4, d5] }
  | _ => none }
def TextFloatsWrongFalsely : Prop := textFloatsRow.holds Try.pinned (OpenSpec.ofChange textFloatsWrong)

/-- 'runaroundlaw14.TextFronts': WHATEVER THE INPUT: true; the input reads as it did. -/
def textFrontsSpec : ChangeSpec := { name := "textFronts", fn := fun _ => fun
  | [d1, d2, d3, d4, d5, d6] => { results := [.lit (.bool true)], args := [d1, d2, d3, d4, d5, d6] }
  | _ => none }
def textFrontsRow : OpenClaim := { program := "ytcmedheeafiogaa", sum := "93243f55f980dfa4521aa79d00a954686b81114d47250086f18bc0684fcde03a", func := "runaround/runaroundlaw14.TextFronts", spec := "textFronts", inPlace := ["slices.overlaps[runaround/shelf.Shelf]"], unfollowed := true, recurses := true, apart := false }
def TextFrontsSaid : Prop := textFrontsRow.holds Try.pinned (OpenSpec.ofChange textFrontsSpec)

/-- ITS FALSE NEIGHBOUR: 'it returns false'. Refute it at one input. -/
def textFrontsWrong : ChangeSpec := { name := "textFronts", fn := fun _ => fun
  | [d1, d2, d3, d4, d5, d6] => { results := [.lit (.bool false)], args := [d1, d2, d3, d4, d5, d6] }
  | _ => none }
def TextFrontsWrongFalsely : Prop := textFrontsRow.holds Try.pinned (OpenSpec.ofChange textFrontsWrong)

/-- 'runaroundlaw14.TextLays': WHATEVER THE INPUT: true; the input reads as it did. -/
def textLaysSpec : ChangeSpec := { name := "textLays", fn := fun _ => fun
  | [d1, d2, d3, d4, d5] => { results := [.lit (.bool true)], args := [d1, d2, d3, d4, d5] }
  | _ => none }
def textLaysRow : OpenClaim := { program := "ytcmedheeafiogaa", sum := "93243f55f980dfa4521aa79d00a954686b81114d47250086f18bc0684fcde03a", func := "runaround/runaroundlaw14.TextLays", spec := "textLays", inPlace := ["slices.overlaps[runaround/shelf.Shelf]"], unfollowed := true, recurses := true, apart := false }
def TextLaysSaid : Prop := textLaysRow.holds Try.pinned (OpenSpec.ofChange textLaysSpec)

/-- ITS FALSE NEIGHBOUR: 'it returns false'. Refute it at one input. -/
def textLaysWrong : ChangeSpec := { name := "textLays", fn := fun _ => fun
  | [d1, d2, d3, d4, d5] => { results := [.lit (.bool false)], args := [d1, d2, d3, d4, d5] }
  | _ => none }
def TextLaysWrongFalsely : Prop := textLaysRow.holds Try.pinned (OpenSpec.ofChange textLaysWrong)

/-- 'runaroundlaw14.TextApart': WHATEVER THE INPUT: true; the input reads as it did. -/
def textApartSpec : ChangeSpec := { name := "textApart", fn := fun _ => fun
  | [d1, d2, d3, d4, d5] => { results := [.lit (.bool true)], args := [d1, d2, d3, d4, d5] }
  | _ => none }
def textApartRow : OpenClaim := { program := "ytcmedheeafiogaa", sum := "93243f55f980dfa4521aa79d00a954686b81114d47250086f18bc0684fcde03a", func := "runaround/runaroundlaw14.TextApart", spec := "textApart", inPlace := ["slices.overlaps[runaround/shelf.Shelf]"], unfollowed := true, recurses := true, apart := false }
def TextApartSaid : Prop := textApartRow.holds Try.pinned (OpenSpec.ofChange textApartSpec)

/-- ITS FALSE NEIGHBOUR: 'it returns false'. Refute it at one input. -/
def textApartWrong : ChangeSpec := { name := "textApart", fn := fun _ => fun
  | [d1, d2, d3, d4, d5] => { results := [.lit (.bool false)], args := [d1, d2, d3, d4, d5] }
  | _ => none }
def TextApartWrongFalsely : Prop := textApartRow.holds Try.pinned (OpenSpec.ofChange textApartWrong)

/-- 'runaroundlaw14.TextPlain': WHATEVER THE INPUT: true; the input reads as it did. -/
def textPlainSpec : ChangeSpec := { name := "textPlain", fn := fun _ => fun
  | [d1, d2, d3, d4, d5] => { results := [.lit (.bool true)], args := [d1, d2, d3, d4, d5] }
  | _ => none }
def textPlainRow : OpenClaim := { program := "ytcmedheeafiogaa", sum := "93243f55f980dfa4521aa79d00a954686b81114d47250086f18bc0684fcde03a", func := "runaround/runaroundlaw14.TextPlain", spec := "textPlain", inPlace := ["slices.overlaps[runaround/shelf.Shelf]"], unfollowed := true, recurses := true, apart := false }
def TextPlainSaid : Prop := textPlainRow.holds Try.pinned (OpenSpec.ofChange textPlainSpec)

/-- ITS FALSE NEIGHBOUR: 'it returns false'. Refute it at one input. -/
def textPlainWrong : ChangeSpec := { name := "textPlain", fn := fun _ => fun
  | [d1, d2, d3, d4, d5] => { results := [.lit (.bool false)], args := [d1, d2, d3, d4, d5] }
  | _ => none }
def TextPlainWrongFalsely : Prop := textPlainRow.holds Try.pinned (OpenSpec.ofChange textPlainWrong)

/- THE SECOND FORM. 'bulk': how many values and letters a reading holds, each counted each time it is reached (what is shared counts as often as it is met; a slice's spare places count too). A statement '..UptoSaid' is the law's where the arguments, and the package variables that the reading takes, are together of bulk at most 1048576: NARROWER than '..Said'. Prove '..Said' where nothing that the law and all that it calls make is longer than what came in: it says more and counts as full. Else prove '..UptoSaid'. A law counts once. -/
mutual
def uptoBulk {H : Type} : DataW H → Nat
  | .lit (.string bytes) => bytes.length + 1
  | .lit _ => 1
  | .nil => 1
  | .ptr d => uptoBulk d + 1
  | .slice elems spare => uptoBulkAll elems + uptoBulkAll spare + 1
  | .agg parts => uptoBulkAll parts + 1
  | .iface _ d => uptoBulk d + 1
  | .map entries => uptoBulkEntries entries + 1
  | .held _ => 1
def uptoBulkAll {H : Type} : List (DataW H) → Nat
  | [] => 0
  | d :: r => uptoBulk d + uptoBulkAll r
def uptoBulkEntries {H : Type} : List (Lit × DataW H) → Nat
  | [] => 0
  | x :: r => uptoBulkEntry x + uptoBulkEntries r
def uptoBulkEntry {H : Type} : Lit × DataW H → Nat
  | (.string bytes, d) => bytes.length + uptoBulk d + 1
  | (_, d) => uptoBulk d + 1
 end
def uptoSmall : (H : Type) → List (DataW H) → Bool := fun _ ds => decide (uptoBulkAll ds ≤ 1048576)
def OpenSpec.upto (s : _root_.Go.ChangeSpec) : _root_.Go.OpenSpec := { _root_.Go.OpenSpec.ofChange s with cond := some uptoSmall }

/-- 'runaroundlaw11.PlaceTall', WHERE WHAT IT READS IS OF BULK AT MOST 1048576: true; the input reads as it did. -/
def placeTallUptoRow : OpenClaim := { program := "ytcmedheeafiogaa", sum := "93243f55f980dfa4521aa79d00a954686b81114d47250086f18bc0684fcde03a", func := "runaround/runaroundlaw11.PlaceTall", spec := "placeTall", inPlace := ["slices.overlaps[runaround/shelf.Shelf]"], unfollowed := true, recurses := true, apart := false, narrowed := true }
def PlaceTallUptoSaid : Prop := placeTallUptoRow.holds Try.pinned (OpenSpec.upto placeTallSpec)

/-- 'runaroundlaw13.LineGreedy', WHERE WHAT IT READS IS OF BULK AT MOST 1048576: true; the input reads as it did. -/
def lineGreedyUptoRow : OpenClaim := { program := "ytcmedheeafiogaa", sum := "93243f55f980dfa4521aa79d00a954686b81114d47250086f18bc0684fcde03a", func := "runaround/runaroundlaw13.LineGreedy", spec := "lineGreedy", inPlace := ["slices.overlaps[runaround/shelf.Shelf]"], unfollowed := true, recurses := true, apart := false, narrowed := true }
def LineGreedyUptoSaid : Prop := lineGreedyUptoRow.holds Try.pinned (OpenSpec.upto lineGreedySpec)

/-- 'runaroundlaw13.LineAlone', WHERE WHAT IT READS IS OF BULK AT MOST 1048576: true; the input reads as it did. -/
def lineAloneUptoRow : OpenClaim := { program := "ytcmedheeafiogaa", sum := "93243f55f980dfa4521aa79d00a954686b81114d47250086f18bc0684fcde03a", func := "runaround/runaroundlaw13.LineAlone", spec := "lineAlone", inPlace := ["slices.overlaps[runaround/shelf.Shelf]"], unfollowed := true, recurses := true, apart := false, narrowed := true }
def LineAloneUptoSaid : Prop := lineAloneUptoRow.holds Try.pinned (OpenSpec.upto lineAloneSpec)

/-- 'runaroundlaw13.LineFirst', WHERE WHAT IT READS IS OF BULK AT MOST 1048576: true; the input reads as it did. -/
def lineFirstUptoRow : OpenClaim := { program := "ytcmedheeafiogaa", sum := "93243f55f980dfa4521aa79d00a954686b81114d47250086f18bc0684fcde03a", func := "runaround/runaroundlaw13.LineFirst", spec := "lineFirst", inPlace := ["slices.overlaps[runaround/shelf.Shelf]"], unfollowed := true, recurses := true, apart := false, narrowed := true }
def LineFirstUptoSaid : Prop := lineFirstUptoRow.holds Try.pinned (OpenSpec.upto lineFirstSpec)

/-- 'runaroundlaw11.PlaceFinds', WHERE WHAT IT READS IS OF BULK AT MOST 1048576: true; the input reads as it did. -/
def placeFindsUptoRow : OpenClaim := { program := "ytcmedheeafiogaa", sum := "93243f55f980dfa4521aa79d00a954686b81114d47250086f18bc0684fcde03a", func := "runaround/runaroundlaw11.PlaceFinds", spec := "placeFinds", inPlace := ["slices.overlaps[runaround/shelf.Shelf]"], unfollowed := true, recurses := true, apart := false, narrowed := true }
def PlaceFindsUptoSaid : Prop := placeFindsUptoRow.holds Try.pinned (OpenSpec.upto placeFindsSpec)

/-- 'runaroundlaw11.PlaceApart', WHERE WHAT IT READS IS OF BULK AT MOST 1048576: true; the input reads as it did. -/
def placeApartUptoRow : OpenClaim := { program := "ytcmedheeafiogaa", sum := "93243f55f980dfa4521aa79d00a954686b81114d47250086f18bc0684fcde03a", func := "runaround/runaroundlaw11.PlaceApart", spec := "placeApart", inPlace := ["slices.overlaps[runaround/shelf.Shelf]"], unfollowed := true, recurses := true, apart := false, narrowed := true }
def PlaceApartUptoSaid : Prop := placeApartUptoRow.holds Try.pinned (OpenSpec.upto placeApartSpec)

/-- 'runaroundlaw13.LineBreaks', WHERE WHAT IT READS IS OF BULK AT MOST 1048576: true; the input reads as it did. -/
def lineBreaksUptoRow : OpenClaim := { program := "ytcmedheeafiogaa", sum := "93243f55f980dfa4521aa79d00a954686b81114d47250086f18bc0684fcde03a", func := "runaround/runaroundlaw13.LineBreaks", spec := "lineBreaks", inPlace := ["slices.overlaps[runaround/shelf.Shelf]"], unfollowed := true, recurses := true, apart := false, narrowed := true }
def LineBreaksUptoSaid : Prop := lineBreaksUptoRow.holds Try.pinned (OpenSpec.upto lineBreaksSpec)

/-- 'runaroundlaw13.LineApart', WHERE WHAT IT READS IS OF BULK AT MOST 1048576: true; the input reads as it did. -/
def lineApartUptoRow : OpenClaim := { program := "ytcmedheeafiogaa", sum := "93243f55f980dfa4521aa79d00a954686b81114d47250086f18bc0684fcde03a", func := "runaround/runaroundlaw13.LineApart", spec := "lineApart", inPlace := ["slices.overlaps[runaround/shelf.Shelf]"], unfollowed := true, recurses := true, apart := false, narrowed := true }
def LineApartUptoSaid : Prop := lineApartUptoRow.holds Try.pinned (OpenSpec.upto lineApartSpec)

/-- 'runaroundlaw14.TextOrder', WHERE WHAT IT READS IS OF BULK AT MOST 1048576: true; the input reads as it did. -/
def textOrderUptoRow : OpenClaim := { program := "ytcmedheeafiogaa", sum := "93243f55f980dfa4521aa79d00a954686b81114d47250086f18bc0684fcde03a", func := "runaround/runaroundlaw14.TextOrder", spec := "textOrder", inPlace := ["slices.overlaps[runaround/shelf.Shelf]"], unfollowed := true, recurses := true, apart := false, narrowed := true }
def TextOrderUptoSaid : Prop := textOrderUptoRow.holds Try.pinned (OpenSpec.upto textOrderSpec)

/-- 'runaroundlaw14.TextFloats', WHERE WHAT IT READS IS OF BULK AT MOST 1048576: true; the input reads as it did. -/
def textFloatsUptoRow : OpenClaim := { program := "ytcmedheeafiogaa", sum := "93243f55f980dfa4521aa79d00a954686b81114d47250086f18bc0684fcde03a", func := "runaround/runaroundlaw14.TextFloats", spec := "textFloats", inPlace := ["slices.overlaps[runaround/shelf.Shelf]"], unfollowed := true, recurses := true, apart := false, narrowed := true }
def TextFloatsUptoSaid : Prop := textFloatsUptoRow.holds Try.pinned (OpenSpec.upto textFloatsSpec)

/-- 'runaroundlaw14.TextFronts', WHERE WHAT IT READS IS OF BULK AT MOST 1048576: true; the input reads as it did. -/
def textFrontsUptoRow : OpenClaim := { program := "ytcmedheeafiogaa", sum := "93243f55f980dfa4521aa79d00a954686b81114d47250086f18bc0684fcde03a", func := "runaround/runaroundlaw14.TextFronts", spec := "textFronts", inPlace := ["slices.overlaps[runaround/shelf.Shelf]"], unfollowed := true, recurses := true, apart := false, narrowed := true }
def TextFrontsUptoSaid : Prop := textFrontsUptoRow.holds Try.pinned (OpenSpec.upto textFrontsSpec)

/-- 'runaroundlaw14.TextLays', WHERE WHAT IT READS IS OF BULK AT MOST 1048576: true; the input reads as it did. -/
def textLaysUptoRow : OpenClaim := { program := "ytcmedheeafiogaa", sum := "93243f55f980dfa4521aa79d00a954686b81114d47250086f18bc0684fcde03a", func := "runaround/runaroundlaw14.TextLays", spec := "textLays", inPlace := ["slices.overlaps[runaround/shelf.Shelf]"], unfollowed := true, recurses := true, apart := false, narrowed := true }
def TextLaysUptoSaid : Prop := textLaysUptoRow.holds Try.pinned (OpenSpec.upto textLaysSpec)

/-- 'runaroundlaw14.TextApart', WHERE WHAT IT READS IS OF BULK AT MOST 1048576: true; the input reads as it did. -/
def textApartUptoRow : OpenClaim := { program := "ytcmedheeafiogaa", sum := "93243f55f980dfa4521aa79d00a954686b81114d47250086f18bc0684fcde03a", func := "runaround/runaroundlaw14.TextApart", spec := "textApart", inPlace := ["slices.overlaps[runaround/shelf.Shelf]"], unfollowed := true, recurses := true, apart := false, narrowed := true }
def TextApartUptoSaid : Prop := textApartUptoRow.holds Try.pinned (OpenSpec.upto textApartSpec)

/-- 'runaroundlaw14.TextPlain', WHERE WHAT IT READS IS OF BULK AT MOST 1048576: true; the input reads as it did. -/
def textPlainUptoRow : OpenClaim := { program := "ytcmedheeafiogaa", sum := "93243f55f980dfa4521aa79d00a954686b81114d47250086f18bc0684fcde03a", func := "runaround/runaroundlaw14.TextPlain", spec := "textPlain", inPlace := ["slices.overlaps[runaround/shelf.Shelf]"], unfollowed := true, recurses := true, apart := false, narrowed := true }
def TextPlainUptoSaid : Prop := textPlainUptoRow.holds Try.pinned (OpenSpec.upto textPlainSpec)

end Rows
end Go.Proofs.Ytcmedheeafiogaa
