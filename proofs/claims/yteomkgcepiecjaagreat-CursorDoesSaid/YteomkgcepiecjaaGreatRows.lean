/-
  No cell of these rows narrows 'for every input' (looked for: loops, veiled, ifaces, maps, wideKeys, modest, calm, conditions, laid).
  DERIVED. THE GIVEN ROWS OF THIS SEAT. 11 by the template 'for every input the law returns true; each argument reads behind the call as it read before'; 0 by the template 'total and deterministic' (their statements: YteomkgcepiecjaaGreatTotals.lean).
  GIVEN WITH THE SEED: the statements are not yours to turn. If you find one false, say at which input.
  Laid BY PROGRAM, IN A SANDBOX (cutbox-rows.mjs): the forced cells as the released guide's own fill.sh prints them over the translation 0ee36ce0f35f079e… (all of the seat's roots in one cut). By AI agents, Wed Nov 11 2026. No macro, syntax, notation, axiom, sorry.
-/
import Derived.Test.YteomkgcepiecjaaGreatChecked
import GoSem.Claim
import GoSem.ClaimJoined
import GoSem.ClaimMapViews
import Derived.JoinedTies
import Derived.KernelRfl
namespace Go.Proofs.YteomkgcepiecjaaGreat
/- THE CELL 'sum', in the pinned program and in every row, IS THE sha256 OF THE DUMP (.gsa) THAT YteomkgcepiecjaaGreatProg.lean LOADS. Nothing in Lean hashes anything: it is a label: what it is worth is what the hold of that sum in a sandbox is worth. -/
noncomputable def Tryz.pinned : Pinned := { name := "yteomkgcepiecjaagreat", sum := "0ee36ce0f35f079e73f5f89d9e9b9e210dce0fe78083222d50de54cc643a8bed", checked := Tryz.checked }
namespace Rows
def none {H : Type} : Left H := { results := [], args := [] }

/-- 'knucklebonelaw16.CursorDoes': WHATEVER THE INPUT: true; the input reads as it did. -/
def cursorDoesSpec : ChangeSpec := { name := "cursorDoes", fn := fun _ => fun
  | [d1, d2, d3, d4, d5] => { results := [.lit (.bool true)], args := [d1, d2, d3, d4, d5] }
  | _ => none }
def cursorDoesRow : OpenClaim := { program := "yteomkgcepiecjaagreat", sum := "0ee36ce0f35f079e73f5f89d9e9b9e210dce0fe78083222d50de54cc643a8bed", func := "knucklebone/knucklebonelaw16.CursorDoes", spec := "cursorDoes", inPlace := ["math/bits.Sub64", "math/bits.Add64"], unfollowed := true, recurses := true, apart := false }
def CursorDoesSaid : Prop := cursorDoesRow.holds Tryz.pinned (OpenSpec.ofChange cursorDoesSpec)

/-- ITS FALSE NEIGHBOUR: 'it returns false'. Refute it at one input. -/
def cursorDoesWrong : ChangeSpec := { name := "cursorDoes", fn := fun _ => fun
  | [d1, d2, d3, d4, d5] => { results := [.lit (.bool false)], args := [d1, d2, d3, d4, d5] }
  | _ => none }
def CursorDoesWrongFalsely : Prop := cursorDoesRow.holds Tryz.pinned (OpenSpec.ofChange cursorDoesWrong)

/-- 'knucklebonelaw16.CursorWords': WHATEVER THE INPUT: true; the input reads as it did. -/
def cursorWordsSpec : ChangeSpec := { name := "cursorWords", fn := fun _ => fun
  | [d1, d2, d3, d4] => { results := [.lit (.bool true)], args := [d1, d2, d3, d4] }
  | _ => none }
def cursorWordsRow : OpenClaim := { program := "yteomkgcepiecjaagreat", sum := "0ee36ce0f35f079e73f5f89d9e9b9e210dce0fe78083222d50de54cc643a8bed", func := "knucklebone/knucklebonelaw16.CursorWords", spec := "cursorWords", inPlace := ["math/bits.Sub64", "math/bits.Add64"], unfollowed := true, recurses := true, apart := false }
def CursorWordsSaid : Prop := cursorWordsRow.holds Tryz.pinned (OpenSpec.ofChange cursorWordsSpec)

/-- ITS FALSE NEIGHBOUR: 'it returns false'. Refute it at one input. -/
def cursorWordsWrong : ChangeSpec := { name := "cursorWords", fn := fun _ => fun
  | [d1, d2, d3, d4] => { results := [.lit (.bool false)], args := [d1, d2, d3, d4] }
  | _ => none }
def CursorWordsWrongFalsely : Prop := cursorWordsRow.holds Tryz.pinned (OpenSpec.ofChange cursorWordsWrong)

/-- 'knucklebonelaw16.CursorBuffer': WHATEVER THE INPUT: true; the input reads as it did. -/
def cursorBufferSpec : ChangeSpec := { name := "cursorBuffer", fn := fun _ => fun
  | [d1, d2, d3, d4] => { results := [.lit (.bool true)], args := [d1, d2, d3, d4] }
  | _ => none }
def cursorBufferRow : OpenClaim := { program := "yteomkgcepiecjaagreat", sum := "0ee36ce0f35f079e73f5f89d9e9b9e210dce0fe78083222d50de54cc643a8bed", func := "knucklebone/knucklebonelaw16.CursorBuffer", spec := "cursorBuffer", inPlace := ["math/bits.Sub64", "math/bits.Add64"], unfollowed := true, recurses := true, apart := false }
def CursorBufferSaid : Prop := cursorBufferRow.holds Tryz.pinned (OpenSpec.ofChange cursorBufferSpec)

/-- ITS FALSE NEIGHBOUR: 'it returns false'. Refute it at one input. -/
def cursorBufferWrong : ChangeSpec := { name := "cursorBuffer", fn := fun _ => fun
  | [d1, d2, d3, d4] => { results := [.lit (.bool false)], args := [d1, d2, d3, d4] }
  | _ => none }
def CursorBufferWrongFalsely : Prop := cursorBufferRow.holds Tryz.pinned (OpenSpec.ofChange cursorBufferWrong)

/-- 'knucklebonelaw17.StreamWords': WHATEVER THE INPUT: true; the input reads as it did. -/
def streamWordsSpec : ChangeSpec := { name := "streamWords", fn := fun _ => fun
  | [d1, d2, d3, d4] => { results := [.lit (.bool true)], args := [d1, d2, d3, d4] }
  | _ => none }
def streamWordsRow : OpenClaim := { program := "yteomkgcepiecjaagreat", sum := "0ee36ce0f35f079e73f5f89d9e9b9e210dce0fe78083222d50de54cc643a8bed", func := "knucklebone/knucklebonelaw17.StreamWords", spec := "streamWords", inPlace := ["math/bits.Sub64", "math/bits.Add64"], unfollowed := true, recurses := true, apart := false }
def StreamWordsSaid : Prop := streamWordsRow.holds Tryz.pinned (OpenSpec.ofChange streamWordsSpec)

/-- ITS FALSE NEIGHBOUR: 'it returns false'. Refute it at one input. -/
def streamWordsWrong : ChangeSpec := { name := "streamWords", fn := fun _ => fun
  | [d1, d2, d3, d4] => { results := [.lit (.bool false)], args := [d1, d2, d3, d4] }
  | _ => none }
def StreamWordsWrongFalsely : Prop := streamWordsRow.holds Tryz.pinned (OpenSpec.ofChange streamWordsWrong)

/-- 'knucklebonelaw17.StreamParts': WHATEVER THE INPUT: true; the input reads as it did. -/
def streamPartsSpec : ChangeSpec := { name := "streamParts", fn := fun _ => fun
  | [d1, d2, d3, d4, d5] => { results := [.lit (.bool true)], args := [d1, d2, d3, d4, d5] }
  | _ => none }
def streamPartsRow : OpenClaim := { program := "yteomkgcepiecjaagreat", sum := "0ee36ce0f35f079e73f5f89d9e9b9e210dce0fe78083222d50de54cc643a8bed", func := "knucklebone/knucklebonelaw17.StreamParts", spec := "streamParts", inPlace := ["math/bits.Sub64", "math/bits.Add64"], unfollowed := true, recurses := true, apart := false }
def StreamPartsSaid : Prop := streamPartsRow.holds Tryz.pinned (OpenSpec.ofChange streamPartsSpec)

/-- ITS FALSE NEIGHBOUR: 'it returns false'. Refute it at one input. -/
def streamPartsWrong : ChangeSpec := { name := "streamParts", fn := fun _ => fun
  | [d1, d2, d3, d4, d5] => { results := [.lit (.bool false)], args := [d1, d2, d3, d4, d5] }
  | _ => none }
def StreamPartsWrongFalsely : Prop := streamPartsRow.holds Tryz.pinned (OpenSpec.ofChange streamPartsWrong)

/-- 'knucklebonelaw17.StreamDoes': WHATEVER THE INPUT: true; the input reads as it did. -/
def streamDoesSpec : ChangeSpec := { name := "streamDoes", fn := fun _ => fun
  | [d1, d2, d3, d4, d5, d6] => { results := [.lit (.bool true)], args := [d1, d2, d3, d4, d5, d6] }
  | _ => none }
def streamDoesRow : OpenClaim := { program := "yteomkgcepiecjaagreat", sum := "0ee36ce0f35f079e73f5f89d9e9b9e210dce0fe78083222d50de54cc643a8bed", func := "knucklebone/knucklebonelaw17.StreamDoes", spec := "streamDoes", inPlace := ["math/bits.Sub64", "math/bits.Add64"], unfollowed := true, recurses := true, apart := false }
def StreamDoesSaid : Prop := streamDoesRow.holds Tryz.pinned (OpenSpec.ofChange streamDoesSpec)

/-- ITS FALSE NEIGHBOUR: 'it returns false'. Refute it at one input. -/
def streamDoesWrong : ChangeSpec := { name := "streamDoes", fn := fun _ => fun
  | [d1, d2, d3, d4, d5, d6] => { results := [.lit (.bool false)], args := [d1, d2, d3, d4, d5, d6] }
  | _ => none }
def StreamDoesWrongFalsely : Prop := streamDoesRow.holds Tryz.pinned (OpenSpec.ofChange streamDoesWrong)

/-- 'knucklebonelaw18.BoundTells': WHATEVER THE INPUT: true; the input reads as it did. -/
def boundTellsSpec : ChangeSpec := { name := "boundTells", fn := fun _ => fun
  | [d1, d2] => { results := [.lit (.bool true)], args := [d1, d2] }
  | _ => none }
def boundTellsRow : OpenClaim := { program := "yteomkgcepiecjaagreat", sum := "0ee36ce0f35f079e73f5f89d9e9b9e210dce0fe78083222d50de54cc643a8bed", func := "knucklebone/knucklebonelaw18.BoundTells", spec := "boundTells", inPlace := ["math/bits.Sub64", "math/bits.Add64"], unfollowed := true, recurses := true, named := ["math/bits.divideError", "math/bits.overflowError"], apart := false }
def BoundTellsSaid : Prop := boundTellsRow.holds Tryz.pinned (OpenSpec.ofChange boundTellsSpec)

/-- ITS FALSE NEIGHBOUR: 'it returns false'. Refute it at one input. -/
def boundTellsWrong : ChangeSpec := { name := "boundTells", fn := fun _ => fun
  | [d1, d2] => { results := [.lit (.bool false)], args := [d1, d2] }
  | _ => none }
def BoundTellsWrongFalsely : Prop := boundTellsRow.holds Tryz.pinned (OpenSpec.ofChange boundTellsWrong)

/-- 'knucklebonelaw18.BoundRow': WHATEVER THE INPUT: true; the input reads as it did. -/
def boundRowSpec : ChangeSpec := { name := "boundRow", fn := fun _ => fun
  | [d1, d2, d3] => { results := [.lit (.bool true)], args := [d1, d2, d3] }
  | _ => none }
def boundRowRow : OpenClaim := { program := "yteomkgcepiecjaagreat", sum := "0ee36ce0f35f079e73f5f89d9e9b9e210dce0fe78083222d50de54cc643a8bed", func := "knucklebone/knucklebonelaw18.BoundRow", spec := "boundRow", inPlace := ["math/bits.Sub64", "math/bits.Add64"], unfollowed := true, recurses := true, named := ["math/bits.divideError", "math/bits.overflowError"], apart := false }
def BoundRowSaid : Prop := boundRowRow.holds Tryz.pinned (OpenSpec.ofChange boundRowSpec)

/-- ITS FALSE NEIGHBOUR: 'it returns false'. Refute it at one input. -/
def boundRowWrong : ChangeSpec := { name := "boundRow", fn := fun _ => fun
  | [d1, d2, d3] => { results := [.lit (.bool false)], args := [d1, d2, d3] }
  | _ => none }
def BoundRowWrongFalsely : Prop := boundRowRow.holds Tryz.pinned (OpenSpec.ofChange boundRowWrong)

/-- 'knucklebonelaw18.BoundDoes': WHATEVER THE INPUT: true; the input reads as it did. -/
def boundDoesSpec : ChangeSpec := { name := "boundDoes", fn := fun _ => fun
  | [d1, d2, d3, d4, d5] => { results := [.lit (.bool true)], args := [d1, d2, d3, d4, d5] }
  | _ => none }
def boundDoesRow : OpenClaim := { program := "yteomkgcepiecjaagreat", sum := "0ee36ce0f35f079e73f5f89d9e9b9e210dce0fe78083222d50de54cc643a8bed", func := "knucklebone/knucklebonelaw18.BoundDoes", spec := "boundDoes", inPlace := ["math/bits.Sub64", "math/bits.Add64"], unfollowed := true, recurses := true, named := ["math/bits.divideError", "math/bits.overflowError"], apart := false }
def BoundDoesSaid : Prop := boundDoesRow.holds Tryz.pinned (OpenSpec.ofChange boundDoesSpec)

/-- ITS FALSE NEIGHBOUR: 'it returns false'. Refute it at one input. -/
def boundDoesWrong : ChangeSpec := { name := "boundDoes", fn := fun _ => fun
  | [d1, d2, d3, d4, d5] => { results := [.lit (.bool false)], args := [d1, d2, d3, d4, d5] }
  | _ => none }
def BoundDoesWrongFalsely : Prop := boundDoesRow.holds Tryz.pinned (OpenSpec.ofChange boundDoesWrong)

/-- 'knucklebonelaw18.BoundPerm': WHATEVER THE INPUT: true; the input reads as it did. -/
def boundPermSpec : ChangeSpec := { name := "boundPerm", fn := fun _ => fun
  | [d1, d2, d3, d4] => { results := [.lit (.bool true)], args := [d1, d2, d3, d4] }
  | _ => none }
def boundPermRow : OpenClaim := { program := "yteomkgcepiecjaagreat", sum := "0ee36ce0f35f079e73f5f89d9e9b9e210dce0fe78083222d50de54cc643a8bed", func := "knucklebone/knucklebonelaw18.BoundPerm", spec := "boundPerm", inPlace := ["math/bits.Sub64", "math/bits.Add64"], unfollowed := true, recurses := true, named := ["math/bits.divideError", "math/bits.overflowError"], apart := false }
def BoundPermSaid : Prop := boundPermRow.holds Tryz.pinned (OpenSpec.ofChange boundPermSpec)

/-- ITS FALSE NEIGHBOUR: 'it returns false'. Refute it at one input. -/
def boundPermWrong : ChangeSpec := { name := "boundPerm", fn := fun _ => fun
  | [d1, d2, d3, d4] => { results := [.lit (.bool false)], args := [d1, d2, d3, d4] }
  | _ => none }
def BoundPermWrongFalsely : Prop := boundPermRow.holds Tryz.pinned (OpenSpec.ofChange boundPermWrong)

/-- 'knucklebonelaw18.BoundFirst': WHATEVER THE INPUT: true; the input reads as it did. -/
def boundFirstSpec : ChangeSpec := { name := "boundFirst", fn := fun _ => fun
  | [d1, d2, d3, d4] => { results := [.lit (.bool true)], args := [d1, d2, d3, d4] }
  | _ => none }
def boundFirstRow : OpenClaim := { program := "yteomkgcepiecjaagreat", sum := "0ee36ce0f35f079e73f5f89d9e9b9e210dce0fe78083222d50de54cc643a8bed", func := "knucklebone/knucklebonelaw18.BoundFirst", spec := "boundFirst", inPlace := ["math/bits.Sub64", "math/bits.Add64"], unfollowed := true, recurses := true, named := ["math/bits.divideError", "math/bits.overflowError"], apart := false }
def BoundFirstSaid : Prop := boundFirstRow.holds Tryz.pinned (OpenSpec.ofChange boundFirstSpec)

/-- ITS FALSE NEIGHBOUR: 'it returns false'. Refute it at one input. -/
def boundFirstWrong : ChangeSpec := { name := "boundFirst", fn := fun _ => fun
  | [d1, d2, d3, d4] => { results := [.lit (.bool false)], args := [d1, d2, d3, d4] }
  | _ => none }
def BoundFirstWrongFalsely : Prop := boundFirstRow.holds Tryz.pinned (OpenSpec.ofChange boundFirstWrong)

/- THE SECOND FORM. 'bulk': how many values and letters a reading holds, each counted each time it is reached (what is shared counts as often as it is met; a slice's spare places count too). A statement '..UptoSaid' is the law's where the arguments, and the package variables that the reading takes, are together of bulk at most 1048576: NARROWER than '..Said'. Prove '..Said' where nothing that the law and all that it calls make is longer than what came in: it says more and counts as full. Else prove '..UptoSaid'. A law counts once. -/
mutual
def uptoBulk {H : Type} : DataW H → Nat
  | .lit (.string bytes) => bytes.length + 1
  | .lit _ => 1
  | .nil => 1
  | .ptr d => uptoBulk d + 1
  | .slice elems spare => uptoBulkAll elems + uptoBulkAll spare + 1
  | .agg parts => uptoBulkAll parts + 1
  | .iface _ d => uptoBulk d + 1
  | .map entries => uptoBulkEntries entries + 1
  | .held _ => 1
def uptoBulkAll {H : Type} : List (DataW H) → Nat
  | [] => 0
  | d :: r => uptoBulk d + uptoBulkAll r
def uptoBulkEntries {H : Type} : List (Lit × DataW H) → Nat
  | [] => 0
  | x :: r => uptoBulkEntry x + uptoBulkEntries r
def uptoBulkEntry {H : Type} : Lit × DataW H → Nat
  | (.string bytes, d) => bytes.length + uptoBulk d + 1
  | (_, d) => uptoBulk d + 1
 end
def uptoSmall : (H : Type) → List (DataW H) → Bool := fun _ ds => decide (uptoBulkAll ds ≤ 1048576)
def OpenSpec.upto (s : _root_.Go.ChangeSpec) : _root_.Go.OpenSpec := { _root_.Go.OpenSpec.ofChange s with cond := some uptoSmall }

/-- 'knucklebonelaw16.CursorDoes', WHERE WHAT IT READS IS OF BULK AT MOST 1048576: true; the input reads as it did. -/
def cursorDoesUptoRow : OpenClaim := { program := "yteomkgcepiecjaagreat", sum := "0ee36ce0f35f079e73f5f89d9e9b9e210dce0fe78083222d50de54cc643a8bed", func := "knucklebone/knucklebonelaw16.CursorDoes", spec := "cursorDoes", inPlace := ["math/bits.Sub64", "math/bits.Add64"], unfollowed := true, recurses := true, apart := false, narrowed := true }
def CursorDoesUptoSaid : Prop := cursorDoesUptoRow.holds Tryz.pinned (OpenSpec.upto cursorDoesSpec)

/-- 'knucklebonelaw16.CursorWords', WHERE WHAT IT READS IS OF BULK AT MOST 1048576: true; the input reads as it did. -/
def cursorWordsUptoRow : OpenClaim := { program := "yteomkgcepiecjaagreat", sum := "0ee36ce0f35f079e73f5f89d9e9b9e210dce0fe78083222d50de54cc643a8bed", func := "knucklebone/knucklebonelaw16.CursorWords", spec := "cursorWords", inPlace := ["math/bits.Sub64", "math/bits.Add64"], unfollowed := true, recurses := true, apart := false, narrowed := true }
def CursorWordsUptoSaid : Prop := cursorWordsUptoRow.holds Tryz.pinned (OpenSpec.upto cursorWordsSpec)

/-- 'knucklebonelaw16.CursorBuffer', WHERE WHAT IT READS IS OF BULK AT MOST 1048576: true; the input reads as it did. -/
def cursorBufferUptoRow : OpenClaim := { program := "yteomkgcepiecjaagreat", sum := "0ee36ce0f35f079e73f5f89d9e9b9e210dce0fe78083222d50de54cc643a8bed", func := "knucklebone/knucklebonelaw16.CursorBuffer", spec := "cursorBuffer", inPlace := ["math/bits.Sub64", "math/bits.Add64"], unfollowed := true, recurses := true, apart := false, narrowed := true }
def CursorBufferUptoSaid : Prop := cursorBufferUptoRow.holds Tryz.pinned (OpenSpec.upto cursorBufferSpec)

/-- 'knucklebonelaw17.StreamWords', WHERE WHAT IT READS IS OF BULK AT MOST 1048576: true; the input reads as it did. -/
def streamWordsUptoRow : OpenClaim := { program := "yteomkgcepiecjaagreat", sum := "0ee36ce0f35f079e73f5f89d9e9b9e210dce0fe78083222d50de54cc643a8bed", func := "knucklebone/knucklebonelaw17.StreamWords", spec := "streamWords", inPlace := ["math/bits.Sub64", "math/bits.Add64"], unfollowed := true, recurses := true, apart := false, narrowed := true }
def StreamWordsUptoSaid : Prop := streamWordsUptoRow.holds Tryz.pinned (OpenSpec.upto streamWordsSpec)

/-- 'knucklebonelaw17.StreamParts', WHERE WHAT IT READS IS OF BULK AT MOST 1048576: true; the input reads as it did. -/
def streamPartsUptoRow : OpenClaim := { program := "yteomkgcepiecjaagreat", sum := "0ee36ce0f35f079e73f5f89d9e9b9e210dce0fe78083222d50de54cc643a8bed", func := "knucklebone/knucklebonelaw17.StreamParts", spec := "streamParts", inPlace := ["math/bits.Sub64", "math/bits.Add64"], unfollowed := true, recurses := true, apart := false, narrowed := true }
def StreamPartsUptoSaid : Prop := streamPartsUptoRow.holds Tryz.pinned (OpenSpec.upto streamPartsSpec)

/-- 'knucklebonelaw17.StreamDoes', WHERE WHAT IT READS IS OF BULK AT MOST 1048576: true; the input reads as it did. -/
def streamDoesUptoRow : OpenClaim := { program := "yteomkgcepiecjaagreat", sum := "0ee36ce0f35f079e73f5f89d9e9b9e210dce0fe78083222d50de54cc643a8bed", func := "knucklebone/knucklebonelaw17.StreamDoes", spec := "streamDoes", inPlace := ["math/bits.Sub64", "math/bits.Add64"], unfollowed := true, recurses := true, apart := false, narrowed := true }
def StreamDoesUptoSaid : Prop := streamDoesUptoRow.holds Tryz.pinned (OpenSpec.upto streamDoesSpec)

/-- 'knucklebonelaw18.BoundTells', WHERE WHAT IT READS IS OF BULK AT MOST 1048576: true; the input reads as it did. -/
def boundTellsUptoRow : OpenClaim := { program := "yteomkgcepiecjaagreat", sum := "0ee36ce0f35f079e73f5f89d9e9b9e210dce0fe78083222d50de54cc643a8bed", func := "knucklebone/knucklebonelaw18.BoundTells", spec := "boundTells", inPlace := ["math/bits.Sub64", "math/bits.Add64"], unfollowed := true, recurses := true, named := ["math/bits.divideError", "math/bits.overflowError"], apart := false, narrowed := true }
def BoundTellsUptoSaid : Prop := boundTellsUptoRow.holds Tryz.pinned (OpenSpec.upto boundTellsSpec)

/-- 'knucklebonelaw18.BoundRow', WHERE WHAT IT READS IS OF BULK AT MOST 1048576: true; the input reads as it did. -/
def boundRowUptoRow : OpenClaim := { program := "yteomkgcepiecjaagreat", sum := "0ee36ce0f35f079e73f5f89d9e9b9e210dce0fe78083222d50de54cc643a8bed", func := "knucklebone/knucklebonelaw18.BoundRow", spec := "boundRow", inPlace := ["math/bits.Sub64", "math/bits.Add64"], unfollowed := true, recurses := true, named := ["math/bits.divideError", "math/bits.overflowError"], apart := false, narrowed := true }
def BoundRowUptoSaid : Prop := boundRowUptoRow.holds Tryz.pinned (OpenSpec.upto boundRowSpec)

/-- 'knucklebonelaw18.BoundDoes', WHERE WHAT IT READS IS OF BULK AT MOST 1048576: true; the input reads as it did. -/
def boundDoesUptoRow : OpenClaim := { program := "yteomkgcepiecjaagreat", sum := "0ee36ce0f35f079e73f5f89d9e9b9e210dce0fe78083222d50de54cc643a8bed", func := "knucklebone/knucklebonelaw18.BoundDoes", spec := "boundDoes", inPlace := ["math/bits.Sub64", "math/bits.Add64"], unfollowed := true, recurses := true, named := ["math/bits.divideError", "math/bits.overflowError"], apart := false, narrowed := true }
def BoundDoesUptoSaid : Prop := boundDoesUptoRow.holds Tryz.pinned (OpenSpec.upto boundDoesSpec)

/-- 'knucklebonelaw18.BoundPerm', WHERE WHAT IT READS IS OF BULK AT MOST 1048576: true; the input reads as it did. -/
def boundPermUptoRow : OpenClaim := { program := "yteomkgcepiecjaagreat", sum := "0ee36ce0f35f079e73f5f89d9e9b9e210dce0fe78083222d50de54cc643a8bed", func := "knucklebone/knucklebonelaw18.BoundPerm", spec := "boundPerm", inPlace := ["math/bits.Sub64", "math/bits.Add64"], unfollowed := true, recurses := true, named := ["math/bits.divideError", "math/bits.overflowError"], apart := false, narrowed := true }
def BoundPermUptoSaid : Prop := boundPermUptoRow.holds Tryz.pinned (OpenSpec.upto boundPermSpec)

/-- 'knucklebonelaw18.BoundFirst', WHERE WHAT IT READS IS OF BULK AT MOST 1048576: true; the input reads as it did. -/
def boundFirstUptoRow : OpenClaim := { program := "yteomkgcepiecjaagreat", sum := "0ee36ce0f35f079e73f5f89d9e9b9e210dce0fe78083222d50de54cc643a8bed", func := "knucklebone/knucklebonelaw18.BoundFirst", spec := "boundFirst", inPlace := ["math/bits.Sub64", "math/bits.Add64"], unfollowed := true, recurses := true, named := ["math/bits.divideError", "math/bits.overflowError"], apart := false, narrowed := true }
def BoundFirstUptoSaid : Prop := boundFirstUptoRow.holds Tryz.pinned (OpenSpec.upto boundFirstSpec)

end Rows
end Go.Proofs.YteomkgcepiecjaaGreat
