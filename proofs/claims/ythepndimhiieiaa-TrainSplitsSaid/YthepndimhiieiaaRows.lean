/-
  No cell of these rows narrows 'for every input' (looked for: loops, veiled, ifaces, maps, wideKeys, modest, calm, conditions, laid).
  DERIVED. THE GIVEN ROWS OF THIS SEAT. 13 by the template 'for every input the law returns true; each argument reads behind the call as it read before'; 0 by the template 'total and deterministic' (their statements: YthepndimhiieiaaTotals.lean).
  GIVEN WITH THE SEED: the statements are not yours to turn. If you find one false, say at which input.
  Laid BY PROGRAM, IN A SANDBOX (cutbox-rows.mjs): the forced cells as the released guide's own fill.sh prints them over the translation 5a295adc9c9f7b37… (all of the seat's roots in one cut). By AI agents, Wed Nov 11 2026. No macro, syntax, notation, axiom, sorry.
-/
import Derived.Test.YthepndimhiieiaaChecked
import GoSem.Claim
import GoSem.ClaimJoined
import GoSem.ClaimMapViews
import Derived.JoinedTies
import Derived.KernelRfl
namespace Go.Proofs.Ythepndimhiieiaa
/- THE CELL 'sum', in the pinned program and in every row, IS THE sha256 OF THE DUMP (.gsa) THAT YthepndimhiieiaaProg.lean LOADS. Nothing in Lean hashes anything: it is a label: what it is worth is what the hold of that sum in a sandbox is worth. -/
noncomputable def Try.pinned : Pinned := { name := "ythepndimhiieiaa", sum := "5a295adc9c9f7b3769285841d381e5e22a4878198bdca2cd490169e747bdc588", checked := Try.checked }
namespace Rows
def none {H : Type} : Left H := { results := [], args := [] }

/-- 'crossbarlaw09.SignRight': WHATEVER THE INPUT: true; the input reads as it did. -/
def signRightSpec : ChangeSpec := { name := "signRight", fn := fun _ => fun
  | [d1, d2, d3] => { results := [.lit (.bool true)], args := [d1, d2, d3] }
  | _ => none }
def signRightRow : OpenClaim := { program := "ythepndimhiieiaa", sum := "5a295adc9c9f7b3769285841d381e5e22a4878198bdca2cd490169e747bdc588", func := "crossbar/crossbarlaw09.SignRight", spec := "signRight", unfollowed := true, recurses := true, apart := false }
def SignRightSaid : Prop := signRightRow.holds Try.pinned (OpenSpec.ofChange signRightSpec)

/-- ITS FALSE NEIGHBOUR: 'it returns false'. Refute it at one input. -/
def signRightWrong : ChangeSpec := { name := "signRight", fn := fun _ => fun
  | [d1, d2, d3] => { results := [.lit (.bool false)], args := [d1, d2, d3] }
  | _ => none }
def SignRightWrongFalsely : Prop := signRightRow.holds Try.pinned (OpenSpec.ofChange signRightWrong)

/-- 'crossbarlaw09.SignBack': WHATEVER THE INPUT: true; the input reads as it did. -/
def signBackSpec : ChangeSpec := { name := "signBack", fn := fun _ => fun
  | [d1, d2, d3, d4] => { results := [.lit (.bool true)], args := [d1, d2, d3, d4] }
  | _ => none }
def signBackRow : OpenClaim := { program := "ythepndimhiieiaa", sum := "5a295adc9c9f7b3769285841d381e5e22a4878198bdca2cd490169e747bdc588", func := "crossbar/crossbarlaw09.SignBack", spec := "signBack", unfollowed := true, recurses := true, apart := false }
def SignBackSaid : Prop := signBackRow.holds Try.pinned (OpenSpec.ofChange signBackSpec)

/-- ITS FALSE NEIGHBOUR: 'it returns false'. Refute it at one input. -/
def signBackWrong : ChangeSpec := { name := "signBack", fn := fun _ => fun
  | [d1, d2, d3, d4] => { results := [.lit (.bool false)], args := [d1, d2, d3, d4] }
  | _ => none }
def SignBackWrongFalsely : Prop := signBackRow.holds Try.pinned (OpenSpec.ofChange signBackWrong)

/-- 'crossbarlaw09.SignWhole': WHATEVER THE INPUT: true; the input reads as it did. -/
def signWholeSpec : ChangeSpec := { name := "signWhole", fn := fun _ => fun
  | [d1, d2, d3, d4] => { results := [.lit (.bool true)], args := [d1, d2, d3, d4] }
  | _ => none }
def signWholeRow : OpenClaim := { program := "ythepndimhiieiaa", sum := "5a295adc9c9f7b3769285841d381e5e22a4878198bdca2cd490169e747bdc588", func := "crossbar/crossbarlaw09.SignWhole", spec := "signWhole", unfollowed := true, recurses := true, apart := false }
def SignWholeSaid : Prop := signWholeRow.holds Try.pinned (OpenSpec.ofChange signWholeSpec)

/-- ITS FALSE NEIGHBOUR: 'it returns false'. Refute it at one input. -/
def signWholeWrong : ChangeSpec := { name := "signWhole", fn := fun _ => fun
  | [d1, d2, d3, d4] => { results := [.lit (.bool false)], args := [d1, d2, d3, d4] }
  | _ => none }
def SignWholeWrongFalsely : Prop := signWholeRow.holds Try.pinned (OpenSpec.ofChange signWholeWrong)

/-- 'crossbarlaw12.ReportRight': WHATEVER THE INPUT: true; the input reads as it did. -/
def reportRightSpec : ChangeSpec := { name := "reportRight", fn := fun _ => fun
  | [d1, d2, d3, d4] => { results := [.lit (.bool true)], args := [d1, d2, d3, d4] }
  | _ => none }
def reportRightRow : OpenClaim := { program := "ythepndimhiieiaa", sum := "5a295adc9c9f7b3769285841d381e5e22a4878198bdca2cd490169e747bdc588", func := "crossbar/crossbarlaw12.ReportRight", spec := "reportRight", unfollowed := true, recurses := true, apart := false }
def ReportRightSaid : Prop := reportRightRow.holds Try.pinned (OpenSpec.ofChange reportRightSpec)

/-- ITS FALSE NEIGHBOUR: 'it returns false'. Refute it at one input. -/
def reportRightWrong : ChangeSpec := { name := "reportRight", fn := fun _ => fun
  | [d1, d2, d3, d4] => { results := [.lit (.bool false)], args := [d1, d2, d3, d4] }
  | _ => none }
def ReportRightWrongFalsely : Prop := reportRightRow.holds Try.pinned (OpenSpec.ofChange reportRightWrong)

/-- 'crossbarlaw12.ReportBack': WHATEVER THE INPUT: true; the input reads as it did. -/
def reportBackSpec : ChangeSpec := { name := "reportBack", fn := fun _ => fun
  | [d1, d2, d3, d4, d5] => { results := [.lit (.bool true)], args := [d1, d2, d3, d4, d5] }
  | _ => none }
def reportBackRow : OpenClaim := { program := "ythepndimhiieiaa", sum := "5a295adc9c9f7b3769285841d381e5e22a4878198bdca2cd490169e747bdc588", func := "crossbar/crossbarlaw12.ReportBack", spec := "reportBack", unfollowed := true, recurses := true, apart := false }
def ReportBackSaid : Prop := reportBackRow.holds Try.pinned (OpenSpec.ofChange reportBackSpec)

/-- ITS FALSE NEIGHBOUR: 'it returns false'. Refute it at one input. -/
def reportBackWrong : ChangeSpec := { name := "reportBack", fn := fun _ => fun
  | [d1, d2, d3, d4, d5] => { results := [.lit (.bool false)], args := [d1, d2, d3, d4, d5] }
  | _ => none }
def ReportBackWrongFalsely : Prop := reportBackRow.holds Try.pinned (OpenSpec.ofChange reportBackWrong)

/-- 'crossbarlaw12.ReportBlocks': WHATEVER THE INPUT: true; the input reads as it did. -/
def reportBlocksSpec : ChangeSpec := { name := "reportBlocks", fn := fun _ => fun
  | [d1, d2, d3] => { results := [.lit (.bool true)], args := [d1, d2, d3] }
  | _ => none }
def reportBlocksRow : OpenClaim := { program := "ythepndimhiieiaa", sum := "5a295adc9c9f7b3769285841d381e5e22a4878198bdca2cd490169e747bdc588", func := "crossbar/crossbarlaw12.ReportBlocks", spec := "reportBlocks", unfollowed := true, recurses := true, apart := false }
def ReportBlocksSaid : Prop := reportBlocksRow.holds Try.pinned (OpenSpec.ofChange reportBlocksSpec)

/-- ITS FALSE NEIGHBOUR: 'it returns false'. Refute it at one input. -/
def reportBlocksWrong : ChangeSpec := { name := "reportBlocks", fn := fun _ => fun
  | [d1, d2, d3] => { results := [.lit (.bool false)], args := [d1, d2, d3] }
  | _ => none }
def ReportBlocksWrongFalsely : Prop := reportBlocksRow.holds Try.pinned (OpenSpec.ofChange reportBlocksWrong)

/-- 'crossbarlaw11.TrainRight': WHATEVER THE INPUT: true; the input reads as it did. -/
def trainRightSpec : ChangeSpec := { name := "trainRight", fn := fun _ => fun
  | [d1, d2, d3, d4, d5] => { results := [.lit (.bool true)], args := [d1, d2, d3, d4, d5] }
  | _ => none }
def trainRightRow : OpenClaim := { program := "ythepndimhiieiaa", sum := "5a295adc9c9f7b3769285841d381e5e22a4878198bdca2cd490169e747bdc588", func := "crossbar/crossbarlaw11.TrainRight", spec := "trainRight", unfollowed := true, recurses := true, apart := false }
def TrainRightSaid : Prop := trainRightRow.holds Try.pinned (OpenSpec.ofChange trainRightSpec)

/-- ITS FALSE NEIGHBOUR: 'it returns false'. Refute it at one input. -/
def trainRightWrong : ChangeSpec := { name := "trainRight", fn := fun _ => fun
  | [d1, d2, d3, d4, d5] => { results := [.lit (.bool false)], args := [d1, d2, d3, d4, d5] }
  | _ => none }
def TrainRightWrongFalsely : Prop := trainRightRow.holds Try.pinned (OpenSpec.ofChange trainRightWrong)

/-- 'crossbarlaw11.TrainBack': WHATEVER THE INPUT: true; the input reads as it did. -/
def trainBackSpec : ChangeSpec := { name := "trainBack", fn := fun _ => fun
  | [d1, d2, d3, d4, d5] => { results := [.lit (.bool true)], args := [d1, d2, d3, d4, d5] }
  | _ => none }
def trainBackRow : OpenClaim := { program := "ythepndimhiieiaa", sum := "5a295adc9c9f7b3769285841d381e5e22a4878198bdca2cd490169e747bdc588", func := "crossbar/crossbarlaw11.TrainBack", spec := "trainBack", unfollowed := true, recurses := true, apart := false }
def TrainBackSaid : Prop := trainBackRow.holds Try.pinned (OpenSpec.ofChange trainBackSpec)

/-- ITS FALSE NEIGHBOUR: 'it returns false'. Refute it at one input. -/
def trainBackWrong : ChangeSpec := { name := "trainBack", fn := fun _ => fun
  | [d1, d2, d3, d4, d5] => { results := [.lit (.bool false)], args := [d1, d2, d3, d4, d5] }
  | _ => none }
def TrainBackWrongFalsely : Prop := trainBackRow.holds Try.pinned (OpenSpec.ofChange trainBackWrong)

/-- 'crossbarlaw11.TrainSplits': WHATEVER THE INPUT: true; the input reads as it did. -/
def trainSplitsSpec : ChangeSpec := { name := "trainSplits", fn := fun _ => fun
  | [d1, d2, d3, d4, d5, d6] => { results := [.lit (.bool true)], args := [d1, d2, d3, d4, d5, d6] }
  | _ => none }
def trainSplitsRow : OpenClaim := { program := "ythepndimhiieiaa", sum := "5a295adc9c9f7b3769285841d381e5e22a4878198bdca2cd490169e747bdc588", func := "crossbar/crossbarlaw11.TrainSplits", spec := "trainSplits", unfollowed := true, recurses := true, apart := false }
def TrainSplitsSaid : Prop := trainSplitsRow.holds Try.pinned (OpenSpec.ofChange trainSplitsSpec)

/-- ITS FALSE NEIGHBOUR: 'it returns false'. Refute it at one input. -/
def trainSplitsWrong : ChangeSpec := { name := "trainSplits", fn := fun _ => fun
  | [d1, d2, d3, d4, d5, d6] => { results := [.lit (.bool false)], args := [d1, d2, d3, d4, d5, d6] }
  | _ => none }
def TrainSplitsWrongFalsely : Prop := trainSplitsRow.holds Try.pinned (OpenSpec.ofChange trainSplitsWrong)

/-- 'crossbarlaw17.RembRight': WHATEVER THE INPUT: true; the input reads as it did. -/
def rembRightSpec : ChangeSpec := { name := "rembRight", fn := fun _ => fun
  | [d1, d2, d3] => { results := [.lit (.bool true)], args := [d1, d2, d3] }
  | _ => none }
def rembRightRow : OpenClaim := { program := "ythepndimhiieiaa", sum := "5a295adc9c9f7b3769285841d381e5e22a4878198bdca2cd490169e747bdc588", func := "crossbar/crossbarlaw17.RembRight", spec := "rembRight", unfollowed := true, recurses := true, apart := false }
def RembRightSaid : Prop := rembRightRow.holds Try.pinned (OpenSpec.ofChange rembRightSpec)

/-- ITS FALSE NEIGHBOUR: 'it returns false'. Refute it at one input. -/
def rembRightWrong : ChangeSpec := { name := "rembRight", fn := fun _ => fun
  | [d1, d2, d3] => { results := [.lit (.bool false)], args := [d1, d2, d3] }
  | _ => none }
def RembRightWrongFalsely : Prop := rembRightRow.holds Try.pinned (OpenSpec.ofChange rembRightWrong)

/-- 'crossbarlaw17.RembBack': WHATEVER THE INPUT: true; the input reads as it did. -/
def rembBackSpec : ChangeSpec := { name := "rembBack", fn := fun _ => fun
  | [d1, d2, d3] => { results := [.lit (.bool true)], args := [d1, d2, d3] }
  | _ => none }
def rembBackRow : OpenClaim := { program := "ythepndimhiieiaa", sum := "5a295adc9c9f7b3769285841d381e5e22a4878198bdca2cd490169e747bdc588", func := "crossbar/crossbarlaw17.RembBack", spec := "rembBack", unfollowed := true, recurses := true, apart := false }
def RembBackSaid : Prop := rembBackRow.holds Try.pinned (OpenSpec.ofChange rembBackSpec)

/-- ITS FALSE NEIGHBOUR: 'it returns false'. Refute it at one input. -/
def rembBackWrong : ChangeSpec := { name := "rembBack", fn := fun _ => fun
  | [d1, d2, d3] => { results := [.lit (.bool false)], args := [d1, d2, d3] }
  | _ => none }
def RembBackWrongFalsely : Prop := rembBackRow.holds Try.pinned (OpenSpec.ofChange rembBackWrong)

/-- 'crossbarlaw17.RembLeast': WHATEVER THE INPUT: true; the input reads as it did. -/
def rembLeastSpec : ChangeSpec := { name := "rembLeast", fn := fun _ => fun
  | [d1, d2, d3, d4] => { results := [.lit (.bool true)], args := [d1, d2, d3, d4] }
  | _ => none }
def rembLeastRow : OpenClaim := { program := "ythepndimhiieiaa", sum := "5a295adc9c9f7b3769285841d381e5e22a4878198bdca2cd490169e747bdc588", func := "crossbar/crossbarlaw17.RembLeast", spec := "rembLeast", unfollowed := true, recurses := true, apart := false }
def RembLeastSaid : Prop := rembLeastRow.holds Try.pinned (OpenSpec.ofChange rembLeastSpec)

/-- ITS FALSE NEIGHBOUR: 'it returns false'. Refute it at one input. -/
def rembLeastWrong : ChangeSpec := { name := "rembLeast", fn := fun _ => fun
  | [d1, d2, d3, d4] => { results := [.lit (.bool false)], args := [d1, d2, d3, d4] }
  | _ => none }
def RembLeastWrongFalsely : Prop := rembLeastRow.holds Try.pinned (OpenSpec.ofChange rembLeastWrong)

/-- 'crossbarlaw17.RembSame': WHATEVER THE INPUT: true; the input reads as it did. -/
def rembSameSpec : ChangeSpec := { name := "rembSame", fn := fun _ => fun
  | [d1, d2] => { results := [.lit (.bool true)], args := [d1, d2] }
  | _ => none }
def rembSameRow : OpenClaim := { program := "ythepndimhiieiaa", sum := "5a295adc9c9f7b3769285841d381e5e22a4878198bdca2cd490169e747bdc588", func := "crossbar/crossbarlaw17.RembSame", spec := "rembSame", unfollowed := true, recurses := true, apart := false }
def RembSameSaid : Prop := rembSameRow.holds Try.pinned (OpenSpec.ofChange rembSameSpec)

/-- ITS FALSE NEIGHBOUR: 'it returns false'. Refute it at one input. -/
def rembSameWrong : ChangeSpec := { name := "rembSame", fn := fun _ => fun
  | [d1, d2] => { results := [.lit (.bool false)], args := [d1, d2] }
  | _ => none }
def RembSameWrongFalsely : Prop := rembSameRow.holds Try.pinned (OpenSpec.ofChange rembSameWrong)

/- THE SECOND FORM. 'bulk': how many values and letters a reading holds, each counted each time it is reached (what is shared counts as often as it is met; a slice's spare places count too). A statement '..UptoSaid' is the law's where the arguments, and the package variables that the reading takes, are together of bulk at most 1048576: NARROWER than '..Said'. Prove '..Said' where nothing that the law and all that it calls make is longer than what came in: it says more and counts as full. Else prove '..UptoSaid'. A law counts once. -/
mutual
def uptoBulk {H : Type} : DataW H → Nat
  | .lit (.string bytes) => bytes.length + 1
  | .lit _ => 1
  | .nil => 1
  | .ptr d => uptoBulk d + 1
  | .slice elems spare => uptoBulkAll elems + uptoBulkAll spare + 1
  | .agg parts => uptoBulkAll parts + 1
  | .iface _ d => uptoBulk d + 1
  | .map entries => uptoBulkEntries entries + 1
  | .held _ => 1
def uptoBulkAll {H : Type} : List (DataW H) → Nat
  | [] => 0
  | d :: r => uptoBulk d + uptoBulkAll r
def uptoBulkEntries {H : Type} : List (Lit × DataW H) → Nat
  | [] => 0
  | x :: r => uptoBulkEntry x + uptoBulkEntries r
def uptoBulkEntry {H : Type} : Lit × DataW H → Nat
  | (.string bytes, d) => bytes.length + uptoBulk d + 1
  | (_, d) => uptoBulk d + 1
 end
def uptoSmall : (H : Type) → List (DataW H) → Bool := fun _ ds => decide (uptoBulkAll ds ≤ 1048576)
def OpenSpec.upto (s : _root_.Go.ChangeSpec) : _root_.Go.OpenSpec := { _root_.Go.OpenSpec.ofChange s with cond := some uptoSmall }

/-- 'crossbarlaw09.SignRight', WHERE WHAT IT READS IS OF BULK AT MOST 1048576: true; the input reads as it did. -/
def signRightUptoRow : OpenClaim := { program := "ythepndimhiieiaa", sum := "5a295adc9c9f7b3769285841d381e5e22a4878198bdca2cd490169e747bdc588", func := "crossbar/crossbarlaw09.SignRight", spec := "signRight", unfollowed := true, recurses := true, apart := false, narrowed := true }
def SignRightUptoSaid : Prop := signRightUptoRow.holds Try.pinned (OpenSpec.upto signRightSpec)

/-- 'crossbarlaw09.SignBack', WHERE WHAT IT READS IS OF BULK AT MOST 1048576: true; the input reads as it did. -/
def signBackUptoRow : OpenClaim := { program := "ythepndimhiieiaa", sum := "5a295adc9c9f7b3769285841d381e5e22a4878198bdca2cd490169e747bdc588", func := "crossbar/crossbarlaw09.SignBack", spec := "signBack", unfollowed := true, recurses := true, apart := false, narrowed := true }
def SignBackUptoSaid : Prop := signBackUptoRow.holds Try.pinned (OpenSpec.upto signBackSpec)

/-- 'crossbarlaw09.SignWhole', WHERE WHAT IT READS IS OF BULK AT MOST 1048576: true; the input reads as it did. -/
def signWholeUptoRow : OpenClaim := { program := "ythepndimhiieiaa", sum := "5a295adc9c9f7b3769285841d381e5e22a4878198bdca2cd490169e747bdc588", func := "crossbar/crossbarlaw09.SignWhole", spec := "signWhole", unfollowed := true, recurses := true, apart := false, narrowed := true }
def SignWholeUptoSaid : Prop := signWholeUptoRow.holds Try.pinned (OpenSpec.upto signWholeSpec)

/-- 'crossbarlaw12.ReportRight', WHERE WHAT IT READS IS OF BULK AT MOST 1048576: true; the input reads as it did. -/
def reportRightUptoRow : OpenClaim := { program := "ythepndimhiieiaa", sum := "5a295adc9c9f7b3769285841d381e5e22a4878198bdca2cd490169e747bdc588", func := "crossbar/crossbarlaw12.ReportRight", spec := "reportRight", unfollowed := true, recurses := true, apart := false, narrowed := true }
def ReportRightUptoSaid : Prop := reportRightUptoRow.holds Try.pinned (OpenSpec.upto reportRightSpec)

/-- 'crossbarlaw12.ReportBack', WHERE WHAT IT READS IS OF BULK AT MOST 1048576: true; the input reads as it did. -/
def reportBackUptoRow : OpenClaim := { program := "ythepndimhiieiaa", sum := "5a295adc9c9f7b3769285841d381e5e22a4878198bdca2cd490169e747bdc588", func := "crossbar/crossbarlaw12.ReportBack", spec := "reportBack", unfollowed := true, recurses := true, apart := false, narrowed := true }
def ReportBackUptoSaid : Prop := reportBackUptoRow.holds Try.pinned (OpenSpec.upto reportBackSpec)

/-- 'crossbarlaw12.ReportBlocks', WHERE WHAT IT READS IS OF BULK AT MOST 1048576: true; the input reads as it did. -/
def reportBlocksUptoRow : OpenClaim := { program := "ythepndimhiieiaa", sum := "5a295adc9c9f7b3769285841d381e5e22a4878198bdca2cd490169e747bdc588", func := "crossbar/crossbarlaw12.ReportBlocks", spec := "reportBlocks", unfollowed := true, recurses := true, apart := false, narrowed := true }
def ReportBlocksUptoSaid : Prop := reportBlocksUptoRow.holds Try.pinned (OpenSpec.upto reportBlocksSpec)

/-- 'crossbarlaw11.TrainRight', WHERE WHAT IT READS IS OF BULK AT MOST 1048576: true; the input reads as it did. -/
def trainRightUptoRow : OpenClaim := { program := "ythepndimhiieiaa", sum := "5a295adc9c9f7b3769285841d381e5e22a4878198bdca2cd490169e747bdc588", func := "crossbar/crossbarlaw11.TrainRight", spec := "trainRight", unfollowed := true, recurses := true, apart := false, narrowed := true }
def TrainRightUptoSaid : Prop := trainRightUptoRow.holds Try.pinned (OpenSpec.upto trainRightSpec)

/-- 'crossbarlaw11.TrainBack', WHERE WHAT IT READS IS OF BULK AT MOST 1048576: true; the input reads as it did. -/
def trainBackUptoRow : OpenClaim := { program := "ythepndimhiieiaa", sum := "5a295adc9c9f7b3769285841d381e5e22a4878198bdca2cd490169e747bdc588", func := "crossbar/crossbarlaw11.TrainBack", spec := "trainBack", unfollowed := true, recurses := true, apart := false, narrowed := true }
def TrainBackUptoSaid : Prop := trainBackUptoRow.holds Try.pinned (OpenSpec.upto trainBackSpec)

/-- 'crossbarlaw11.TrainSplits', WHERE WHAT IT READS IS OF BULK AT MOST 1048576: true; the input reads as it did. -/
def trainSplitsUptoRow : OpenClaim := { program := "ythepndimhiieiaa", sum := "5a295adc9c9f7b3769285841d381e5e22a4878198bdca2cd490169e747bdc588", func := "crossbar/crossbarlaw11.TrainSplits", spec := "trainSplits", unfollowed := true, recurses := true, apart := false, narrowed := true }
def TrainSplitsUptoSaid : Prop := trainSplitsUptoRow.holds Try.pinned (OpenSpec.upto trainSplitsSpec)

/-- 'crossbarlaw17.RembRight', WHERE WHAT IT READS IS OF BULK AT MOST 1048576: true; the input reads as it did. -/
def rembRightUptoRow : OpenClaim := { program := "ythepndimhiieiaa", sum := "5a295adc9c9f7b3769285841d381e5e22a4878198bdca2cd490169e747bdc588", func := "crossbar/crossbarlaw17.RembRight", spec := "rembRight", unfollowed := true, recurses := true, apart := false, narrowed := true }
def RembRightUptoSaid : Prop := rembRightUptoRow.holds Try.pinned (OpenSpec.upto rembRightSpec)

/-- 'crossbarlaw17.RembBack', WHERE WHAT IT READS IS OF BULK AT MOST 1048576: true; the input reads as it did. -/
def rembBackUptoRow : OpenClaim := { program := "ythepndimhiieiaa", sum := "5a295adc9c9f7b3769285841d381e5e22a4878198bdca2cd490169e747bdc588", func := "crossbar/crossbarlaw17.RembBack", spec := "rembBack", unfollowed := true, recurses := true, apart := false, narrowed := true }
def RembBackUptoSaid : Prop := rembBackUptoRow.holds Try.pinned (OpenSpec.upto rembBackSpec)

/-- 'crossbarlaw17.RembLeast', WHERE WHAT IT READS IS OF BULK AT MOST 1048576: true; the input reads as it did. -/
def rembLeastUptoRow : OpenClaim := { program := "ythepndimhiieiaa", sum := "5a295adc9c9f7b3769285841d381e5e22a4878198bdca2cd490169e747bdc588", func := "crossbar/crossbarlaw17.RembLeast", spec := "rembLeast", unfollowed := true, recurses := true, apart := false, narrowed := true }
def RembLeastUptoSaid : Prop := rembLeastUptoRow.holds Try.pinned (OpenSpec.upto rembLeastSpec)

/-- 'crossbarlaw17.RembSame', WHERE WHAT IT READS IS OF BULK AT MOST 1048576: true; the input reads as it did. -/
def rembSameUptoRow : OpenClaim := { program := "ythepndimhiieiaa", sum := "5a295adc9c9f7b3769285841d381e5e22a4878198bdca2cd490169e747bdc588", func := "crossbar/crossbarlaw17.RembSame", spec := "rembSame", unfollowed := true, recurses := true, apart := false, narrowed := true }
def RembSameUptoSaid : Prop := rembSameUptoRow.holds Try.pinned (OpenSpec.upto rembSameSpec)

end Rows
end Go.Proofs.Ythepndimhiieiaa
