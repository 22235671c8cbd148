/-
  No cell of these rows narrows 'for every input' (looked for: loops, veiled, ifaces, maps, wideKeys, modest, calm, conditions, laid).
  DERIVED. THE GIVEN ROWS OF THIS SEAT. 8 by the template 'for every input the law returns true; each argument reads behind the call as it read before'; 0 by the template 'total and deterministic' (their statements: YtcdacnhggpfnaaaTotals.lean).
  GIVEN WITH THE SEED: the statements are not yours to turn. If you find one false, say at which input.
  Laid BY PROGRAM, IN A SANDBOX (cutbox-rows.mjs): the forced cells as the released guide's own fill.sh prints them over the translation cf21dcc3c47e2933… (all of the seat's roots in one cut). By AI agents, Wed Nov 11 2026. No macro, syntax, notation, axiom, sorry.
-/
import Derived.Test.YtcdacnhggpfnaaaChecked
import GoSem.Claim
import GoSem.ClaimJoined
import GoSem.ClaimMapViews
import Derived.JoinedTies
import Derived.KernelRfl
namespace Go.Proofs.Ytcdacnhggpfnaaa
/- THE CELL 'sum', in the pinned program and in every row, IS THE sha256 OF THE DUMP (.gsa) THAT YtcdacnhggpfnaaaProg.lean LOADS. Nothing in Lean hashes anything: it is a label: what it is worth is what the hold of that sum in a sandbox is worth. -/
noncomputable def Try.pinned : Pinned := { name := "ytcdacnhggpfnaaa", sum := "cf21dcc3c47e29338cefccb960f603d93c647d34ad628681a5119b00703f91f0", checked := Try.checked }
namespace Rows
def none {H : Type} : Left H := { results := [], args := [] }

/-- 'crossbarlaw07.PlaceCovers': WHATEVER THE INPUT: true; the input reads as it did. -/
def placeCoversSpec : ChangeSpec := { name := "placeCovers", fn := fun _ => fun
  | [d] => { results := [.lit (.bool true)], args := [d] }
  | _ => none }
def placeCoversRow : OpenClaim := { program := "ytcdacnhggpfnaaa", sum := "cf21dcc3c47e29338cefccb960f603d93c647d34ad628681a5119b00703f91f0", func := "crossbar/crossbarlaw07.PlaceCovers", spec := "placeCovers", unfollowed := true, recurses := true, apart := false }
def PlaceCoversSaid : Prop := placeCoversRow.holds Try.pinned (OpenSpec.ofChange placeCoversSpec)

/-- ITS FALSE NEIGHBOUR: 'it returns false'. Refute it at one input. -/
def placeCoversWrong : ChangeSpec := { name := "placeCovers", fn := fun _ => fun
  | [d] => { results := [.lit (.bool false)], args := [d] }
  | _ => none }
def PlaceCoversWrongFalsely : Prop := placeCoversRow.holds Try.pinned (OpenSpec.ofChange placeCoversWrong)

/-- 'crossbarlaw07.PlaceTurns': WHATEVER THE INPUT: true; the input reads as it did. -/
def placeTurnsSpec : ChangeSpec := { name := "placeTurns", fn := fun _ => fun
  | [d1, d2, d3] => { results := [.lit (.bool true)], args := [d1, d2, d3] }
  | _ => none }
def placeTurnsRow : OpenClaim := { program := "ytcdacnhggpfnaaa", sum := "cf21dcc3c47e29338cefccb960f603d93c647d34ad628681a5119b00703f91f0", func := "crossbar/crossbarlaw07.PlaceTurns", spec := "placeTurns", unfollowed := true, recurses := true, apart := false }
def PlaceTurnsSaid : Prop := placeTurnsRow.holds Try.pinned (OpenSpec.ofChange placeTurnsSpec)

/-- ITS FALSE NEIGHBOUR: 'it returns false'. Refute it at one input. -/
def placeTurnsWrong : ChangeSpec := { name := "placeTurns", fn := fun _ => fun
  | [d1, d2, d3] => { results := [.lit (.bool false)], args := [d1, d2, d3] }
  | _ => none }
def PlaceTurnsWrongFalsely : Prop := placeTurnsRow.holds Try.pinned (OpenSpec.ofChange placeTurnsWrong)

/-- 'crossbarlaw23.Vp8Right': WHATEVER THE INPUT: true; the input reads as it did. -/
def vp8RightSpec : ChangeSpec := { name := "vp8Right", fn := fun _ => fun
  | [d1, d2, d3, d4, d5] => { results := [.lit (.bool true)], args := [d1, d2, d3, d4, d5] }
  | _ => none }
def vp8RightRow : OpenClaim := { program := "ytcdacnhggpfnaaa", sum := "cf21dcc3c47e29338cefccb960f603d93c647d34ad628681a5119b00703f91f0", func := "crossbar/crossbarlaw23.Vp8Right", spec := "vp8Right", unfollowed := true, recurses := true, apart := false }
def Vp8RightSaid : Prop := vp8RightRow.holds Try.pinned (OpenSpec.ofChange vp8RightSpec)

/-- ITS FALSE NEIGHBOUR: 'it returns false'. Refute it at one input. -/
def vp8RightWrong : ChangeSpec := { name := "vp8Right", fn := fun _ => fun
  | [d1, d2, d3, d4, d5] => { results := [.lit (.bool false)], args := [d1, d2, d3, d4, d5] }
  | _ => none }
def Vp8RightWrongFalsely : Prop := vp8RightRow.holds Try.pinned (OpenSpec.ofChange vp8RightWrong)

/-- 'crossbarlaw23.Vp8Back': WHATEVER THE INPUT: true; the input reads as it did. -/
def vp8BackSpec : ChangeSpec := { name := "vp8Back", fn := fun _ => fun
  | [d1, d2, d3, d4] => { results := [.lit (.bool true)], args := [d1, d2, d3, d4] }
  | _ => none }
def vp8BackRow : OpenClaim := { program := "ytcdacnhggpfnaaa", sum := "cf21dcc3c47e29338cefccb960f603d93c647d34ad628681a5119b00703f91f0", func := "crossbar/crossbarlaw23.Vp8Back", spec := "vp8Back", unfollowed := true, recurses := true, apart := false }
def Vp8BackSaid : Prop := vp8BackRow.holds Try.pinned (OpenSpec.ofChange vp8BackSpec)

/-- ITS FALSE NEIGHBOUR: 'it returns false'. Refute it at one input. -/
def vp8BackWrong : ChangeSpec := { name := "vp8Back", fn := fun _ => fun
  | [d1, d2, d3, d4] => { results := [.lit (.bool false)], args := [d1, d2, d3, d4] }
  | _ => none }
def Vp8BackWrongFalsely : Prop := vp8BackRow.holds Try.pinned (OpenSpec.ofChange vp8BackWrong)

/-- 'crossbarlaw23.Vp8Set': WHATEVER THE INPUT: true; the input reads as it did. -/
def vp8SetSpec : ChangeSpec := { name := "vp8Set", fn := fun _ => fun
  | [d1, d2, d3, d4] => { results := [.lit (.bool true)], args := [d1, d2, d3, d4] }
  | _ => none }
def vp8SetRow : OpenClaim := { program := "ytcdacnhggpfnaaa", sum := "cf21dcc3c47e29338cefccb960f603d93c647d34ad628681a5119b00703f91f0", func := "crossbar/crossbarlaw23.Vp8Set", spec := "vp8Set", unfollowed := true, recurses := true, apart := false }
def Vp8SetSaid : Prop := vp8SetRow.holds Try.pinned (OpenSpec.ofChange vp8SetSpec)

/-- ITS FALSE NEIGHBOUR: 'it returns false'. Refute it at one input. -/
def vp8SetWrong : ChangeSpec := { name := "vp8Set", fn := fun _ => fun
  | [d1, d2, d3, d4] => { results := [.lit (.bool false)], args := [d1, d2, d3, d4] }
  | _ => none }
def Vp8SetWrongFalsely : Prop := vp8SetRow.holds Try.pinned (OpenSpec.ofChange vp8SetWrong)

/-- 'crossbarlaw25.H264Parts': WHATEVER THE INPUT: true; the input reads as it did. -/
def h264PartsSpec : ChangeSpec := { name := "h264Parts", fn := fun _ => fun
  | [d1, d2, d3] => { results := [.lit (.bool true)], args := [d1, d2, d3] }
  | _ => none }
def h264PartsRow : OpenClaim := { program := "ytcdacnhggpfnaaa", sum := "cf21dcc3c47e29338cefccb960f603d93c647d34ad628681a5119b00703f91f0", func := "crossbar/crossbarlaw25.H264Parts", spec := "h264Parts", unfollowed := true, recurses := true, apart := false }
def H264PartsSaid : Prop := h264PartsRow.holds Try.pinned (OpenSpec.ofChange h264PartsSpec)

/-- ITS FALSE NEIGHBOUR: 'it returns false'. Refute it at one input. -/
def h264PartsWrong : ChangeSpec := { name := "h264Parts", fn := fun _ => fun
  | [d1, d2, d3] => { results := [.lit (.bool false)], args := [d1, d2, d3] }
  | _ => none }
def H264PartsWrongFalsely : Prop := h264PartsRow.holds Try.pinned (OpenSpec.ofChange h264PartsWrong)

/-- 'crossbarlaw25.H264Back': WHATEVER THE INPUT: true; the input reads as it did. -/
def h264BackSpec : ChangeSpec := { name := "h264Back", fn := fun _ => fun
  | [d1, d2, d3] => { results := [.lit (.bool true)], args := [d1, d2, d3] }
  | _ => none }
def h264BackRow : OpenClaim := { program := "ytcdacnhggpfnaaa", sum := "cf21dcc3c47e29338cefccb960f603d93c647d34ad628681a5119b00703f91f0", func := "crossbar/crossbarlaw25.H264Back", spec := "h264Back", unfollowed := true, recurses := true, apart := false }
def H264BackSaid : Prop := h264BackRow.holds Try.pinned (OpenSpec.ofChange h264BackSpec)

/-- ITS FALSE NEIGHBOUR: 'it returns false'. Refute it at one input. -/
def h264BackWrong : ChangeSpec := { name := "h264Back", fn := fun _ => fun
  | [d1, d2, d3] => { results := [.lit (.bool false)], args := [d1, d2, d3] }
  | _ => none }
def H264BackWrongFalsely : Prop := h264BackRow.holds Try.pinned (OpenSpec.ofChange h264BackWrong)

/-- 'crossbarlaw25.H264Joins': WHATEVER THE INPUT: true; the input reads as it did. -/
def h264JoinsSpec : ChangeSpec := { name := "h264Joins", fn := fun _ => fun
  | [d1, d2, d3] => { results := [.lit (.bool true)], args := [d1, d2, d3] }
  | _ => none }
def h264JoinsRow : OpenClaim := { program := "ytcdacnhggpfnaaa", sum := "cf21dcc3c47e29338cefccb960f603d93c647d34ad628681a5119b00703f91f0", func := "crossbar/crossbarlaw25.H264Joins", spec := "h264Joins", unfollowed := true, recurses := true, apart := false }
def H264JoinsSaid : Prop := h264JoinsRow.holds Try.pinned (OpenSpec.ofChange h264JoinsSpec)

/-- ITS FALSE NEIGHBOUR: 'it returns false'. Refute it at one input. -/
def h264JoinsWrong : ChangeSpec := { name := "h264Joins", fn := fun _ => fun
  | [d1, d2, d3] => { results := [.lit (.bool false)], args := [d1, d2, d3] }
  | _ => none }
def H264JoinsWrongFalsely : Prop := h264JoinsRow.holds Try.pinned (OpenSpec.ofChange h264JoinsWrong)

/- THE SECOND FORM. 'bulk': how many values and letters a reading holds, each counted each time it is reached (what is shared counts as often as it is met; a slice's spare places count too). A statement '..UptoSaid' is the law's where the arguments, and the package variables that the reading takes, are together of bulk at most 1048576: NARROWER than '..Said'. Prove '..Said' where nothing that the law and all that it calls make is longer than what came in: it says more and counts as full. Else prove '..UptoSaid'. A law counts once. -/
mutual
def uptoBulk {H : Type} : DataW H → Nat
  | .lit (.string bytes) => bytes.length + 1
  | .lit _ => 1
  | .nil => 1
  | .ptr d => uptoBulk d + 1
  | .slice elems spare => uptoBulkAll elems + uptoBulkAll spare + 1
  | .agg parts => uptoBulkAll parts + 1
  | .iface _ d => uptoBulk d + 1
  | .map entries => uptoBulkEntries entries + 1
  | .held _ => 1
def uptoBulkAll {H : Type} : List (DataW H) → Nat
  | [] => 0
  | d :: r => uptoBulk d + uptoBulkAll r
def uptoBulkEntries {H : Type} : List (Lit × DataW H) → Nat
  | [] => 0
  | x :: r => uptoBulkEntry x + uptoBulkEntries r
def uptoBulkEntry {H : Type} : Lit × DataW H → Nat
  | (.string bytes, d) => bytes.length + uptoBulk d + 1
  | (_, d) => uptoBulk d + 1
 end
def uptoSmall : (H : Type) → List (DataW H) → Bool := fun _ ds => decide (uptoBulkAll ds ≤ 1048576)
def OpenSpec.upto (s : _root_.Go.ChangeSpec) : _root_.Go.OpenSpec := { _root_.Go.OpenSpec.ofChange s with cond := some uptoSmall }

/-- 'crossbarlaw07.PlaceCovers', WHERE WHAT IT READS IS OF BULK AT MOST 1048576: true; the input reads as it did. -/
def placeCoversUptoRow : OpenClaim := { program := "ytcdacnhggpfnaaa", sum := "cf21dcc3c47e29338cefccb960f603d93c647d34ad628681a5119b00703f91f0", func := "crossbar/crossbarlaw07.PlaceCovers", spec := "placeCovers", unfollowed := true, recurses := true, apart := false, narrowed := true }
def PlaceCoversUptoSaid : Prop := placeCoversUptoRow.holds Try.pinned (OpenSpec.upto placeCoversSpec)

/-- 'crossbarlaw07.PlaceTurns', WHERE WHAT IT READS IS OF BULK AT MOST 1048576: true; the input reads as it did. -/
def placeTurnsUptoRow : OpenClaim := { program := "ytcdacnhggpfnaaa", sum := "cf21dcc3c47e29338cefccb960f603d93c647d34ad628681a5119b00703f91f0", func := "crossbar/crossbarlaw07.PlaceTurns", spec := "placeTurns", unfollowed := true, recurses := true, apart := false, narrowed := true }
def PlaceTurnsUptoSaid : Prop := placeTurnsUptoRow.holds Try.pinned (OpenSpec.upto placeTurnsSpec)

/-- 'crossbarlaw23.Vp8Right', WHERE WHAT IT READS IS OF BULK AT MOST 1048576: true; the input reads as it did. -/
def vp8RightUptoRow : OpenClaim := { program := "ytcdacnhggpfnaaa", sum := "cf21dcc3c47e29338cefccb960f603d93c647d34ad628681a5119b00703f91f0", func := "crossbar/crossbarlaw23.Vp8Right", spec := "vp8Right", unfollowed := true, recurses := true, apart := false, narrowed := true }
def Vp8RightUptoSaid : Prop := vp8RightUptoRow.holds Try.pinned (OpenSpec.upto vp8RightSpec)

/-- 'crossbarlaw23.Vp8Back', WHERE WHAT IT READS IS OF BULK AT MOST 1048576: true; the input reads as it did. -/
def vp8BackUptoRow : OpenClaim := { program := "ytcdacnhggpfnaaa", sum := "cf21dcc3c47e29338cefccb960f603d93c647d34ad628681a5119b00703f91f0", func := "crossbar/crossbarlaw23.Vp8Back", spec := "vp8Back", unfollowed := true, recurses := true, apart := false, narrowed := true }
def Vp8BackUptoSaid : Prop := vp8BackUptoRow.holds Try.pinned (OpenSpec.upto vp8BackSpec)

/-- 'crossbarlaw23.Vp8Set', WHERE WHAT IT READS IS OF BULK AT MOST 1048576: true; the input reads as it did. -/
def vp8SetUptoRow : OpenClaim := { program := "ytcdacnhggpfnaaa", sum := "cf21dcc3c47e29338cefccb960f603d93c647d34ad628681a5119b00703f91f0", func := "crossbar/crossbarlaw23.Vp8Set", spec := "vp8Set", unfollowed := true, recurses := true, apart := false, narrowed := true }
def Vp8SetUptoSaid : Prop := vp8SetUptoRow.holds Try.pinned (OpenSpec.upto vp8SetSpec)

/-- 'crossbarlaw25.H264Parts', WHERE WHAT IT READS IS OF BULK AT MOST 1048576: true; the input reads as it did. -/
def h264PartsUptoRow : OpenClaim := { program := "ytcdacnhggpfnaaa", sum := "cf21dcc3c47e29338cefccb960f603d93c647d34ad628681a5119b00703f91f0", func := "crossbar/crossbarlaw25.H264Parts", spec := "h264Parts", unfollowed := true, recurses := true, apart := false, narrowed := true }
def H264PartsUptoSaid : Prop := h264PartsUptoRow.holds Try.pinned (OpenSpec.upto h264PartsSpec)

/-- 'crossbarlaw25.H264Back', WHERE WHAT IT READS IS OF BULK AT MOST 1048576: true; the input reads as it did. -/
def h264BackUptoRow : OpenClaim := { program := "ytcdacnhggpfnaaa", sum := "cf21dcc3c47e29338cefccb960f603d93c647d34ad628681a5119b00703f91f0", func := "crossbar/crossbarlaw25.H264Back", spec := "h264Back", unfollowed := true, recurses := true, apart := false, narrowed := true }
def H264BackUptoSaid : Prop := h264BackUptoRow.holds Try.pinned (OpenSpec.upto h264BackSpec)

/-- 'crossbarlaw25.H264Joins', WHERE WHAT IT READS IS OF BULK AT MOST 1048576: true; the input reads as it did. -/
def h264JoinsUptoRow : OpenClaim := { program := "ytcdacnhggpfnaaa", sum := "cf21dcc3c47e29338cefccb960f603d93c647d34ad628681a5119b00703f91f0", func := "crossbar/crossbarlaw25.H264Joins", spec := "h264Joins", unfollowed := true, recurses := true, apart := false, narrowed := true }
def H264JoinsUptoSaid : Prop := h264JoinsUptoRow.holds Try.pinned (OpenSpec.upto h264JoinsSpec)

end Rows
end Go.Proofs.Ytcdacnhggpfnaaa
