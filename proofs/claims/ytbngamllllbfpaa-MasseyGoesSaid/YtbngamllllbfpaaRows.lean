/-
  No cell of these rows narrows 'for every input' (looked for: loops, veiled, ifaces, maps, wideKeys, modest, calm, conditions, laid).
  DERIVED. THE GIVEN ROWS OF THIS SEAT. 12 by the template 'for every input the law returns true; each argument reads behind the call as it read before'; 0 by the template 'total and deterministic' (their statements: YtbngamllllbfpaaTotals.lean).
  GIVEN WITH THE SEED: the statements are not yours to turn. If you find one false, say at which input.
  Laid BY PROGRAM, IN A SANDBOX (cutbox-rows.mjs): the forced cells as the released guide's own fill.sh prints them over the translation 1eb69491a6f82746… (all of the seat's roots in one cut). By AI agents, Wed Nov 11 2026. No macro, syntax, notation, axiom, sorry.
-/
import Derived.Test.YtbngamllllbfpaaChecked
import GoSem.Claim
import GoSem.ClaimJoined
import GoSem.ClaimMapViews
import Derived.JoinedTies
import Derived.KernelRfl
namespace Go.Proofs.Ytbngamllllbfpaa
/- THE CELL 'sum', in the pinned program and in every row, IS THE sha256 OF THE DUMP (.gsa) THAT YtbngamllllbfpaaProg.lean LOADS. Nothing in Lean hashes anything: it is a label: what it is worth is what the hold of that sum in a sandbox is worth. -/
noncomputable def Try.pinned : Pinned := { name := "ytbngamllllbfpaa", sum := "1eb69491a6f82746a12944ee99cbf75b16b3310a51d12a3619a2def4efad6db4", checked := Try.checked }
namespace Rows
def none {H : Type} : Left H := { results := [], args := [] }

/-- 'knucklebonelaw02.GfpTells': WHATEVER THE INPUT: true; the input reads as it did. -/
def gfpTellsSpec : ChangeSpec := { name := "gfpTells", fn := fun _ => fun
  | [d1, d2, d3] => { results := [.lit (.bool true)], args := [d1, d2, d3] }
  | _ => none }
def gfpTellsRow : OpenClaim := { program := "ytbngamllllbfpaa", sum := "1eb69491a6f82746a12944ee99cbf75b16b3310a51d12a3619a2def4efad6db4", func := "knucklebone/knucklebonelaw02.GfpTells", spec := "gfpTells", unfollowed := true, recurses := true, apart := false }
def GfpTellsSaid : Prop := gfpTellsRow.holds Try.pinned (OpenSpec.ofChange gfpTellsSpec)

/-- ITS FALSE NEIGHBOUR: 'it returns false'. Refute it at one input. -/
def gfpTellsWrong : ChangeSpec := { name := "gfpTells", fn := fun _ => fun
  | [d1, d2, d3] => { results := [.lit (.bool false)], args := [d1, d2, d3] }
  | _ => none }
def GfpTellsWrongFalsely : Prop := gfpTellsRow.holds Try.pinned (OpenSpec.ofChange gfpTellsWrong)

/-- 'knucklebonelaw02.GfpRing': WHATEVER THE INPUT: true; the input reads as it did. -/
def gfpRingSpec : ChangeSpec := { name := "gfpRing", fn := fun _ => fun
  | [d1, d2, d3] => { results := [.lit (.bool true)], args := [d1, d2, d3] }
  | _ => none }
def gfpRingRow : OpenClaim := { program := "ytbngamllllbfpaa", sum := "1eb69491a6f82746a12944ee99cbf75b16b3310a51d12a3619a2def4efad6db4", func := "knucklebone/knucklebonelaw02.GfpRing", spec := "gfpRing", unfollowed := true, recurses := true, apart := false }
def GfpRingSaid : Prop := gfpRingRow.holds Try.pinned (OpenSpec.ofChange gfpRingSpec)

/-- ITS FALSE NEIGHBOUR: 'it returns false'. Refute it at one input. -/
def gfpRingWrong : ChangeSpec := { name := "gfpRing", fn := fun _ => fun
  | [d1, d2, d3] => { results := [.lit (.bool false)], args := [d1, d2, d3] }
  | _ => none }
def GfpRingWrongFalsely : Prop := gfpRingRow.holds Try.pinned (OpenSpec.ofChange gfpRingWrong)

/-- 'knucklebonelaw02.GfpSquares': WHATEVER THE INPUT: true; the input reads as it did. -/
def gfpSquaresSpec : ChangeSpec := { name := "gfpSquares", fn := fun _ => fun
  | [d1, d2, d3] => { results := [.lit (.bool true)], args := [d1, d2, d3] }
  | _ => none }
def gfpSquaresRow : OpenClaim := { program := "ytbngamllllbfpaa", sum := "1eb69491a6f82746a12944ee99cbf75b16b3310a51d12a3619a2def4efad6db4", func := "knucklebone/knucklebonelaw02.GfpSquares", spec := "gfpSquares", unfollowed := true, recurses := true, apart := false }
def GfpSquaresSaid : Prop := gfpSquaresRow.holds Try.pinned (OpenSpec.ofChange gfpSquaresSpec)

/-- ITS FALSE NEIGHBOUR: 'it returns false'. Refute it at one input. -/
def gfpSquaresWrong : ChangeSpec := { name := "gfpSquares", fn := fun _ => fun
  | [d1, d2, d3] => { results := [.lit (.bool false)], args := [d1, d2, d3] }
  | _ => none }
def GfpSquaresWrongFalsely : Prop := gfpSquaresRow.holds Try.pinned (OpenSpec.ofChange gfpSquaresWrong)

/-- 'knucklebonelaw02.GfpDegrees': WHATEVER THE INPUT: true; the input reads as it did. -/
def gfpDegreesSpec : ChangeSpec := { name := "gfpDegrees", fn := fun _ => fun
  | [d1, d2, d3] => { results := [.lit (.bool true)], args := [d1, d2, d3] }
  | _ => none }
def gfpDegreesRow : OpenClaim := { program := "ytbngamllllbfpaa", sum := "1eb69491a6f82746a12944ee99cbf75b16b3310a51d12a3619a2def4efad6db4", func := "knucklebone/knucklebonelaw02.GfpDegrees", spec := "gfpDegrees", unfollowed := true, recurses := true, apart := false }
def GfpDegreesSaid : Prop := gfpDegreesRow.holds Try.pinned (OpenSpec.ofChange gfpDegreesSpec)

/-- ITS FALSE NEIGHBOUR: 'it returns false'. Refute it at one input. -/
def gfpDegreesWrong : ChangeSpec := { name := "gfpDegrees", fn := fun _ => fun
  | [d1, d2, d3] => { results := [.lit (.bool false)], args := [d1, d2, d3] }
  | _ => none }
def GfpDegreesWrongFalsely : Prop := gfpDegreesRow.holds Try.pinned (OpenSpec.ofChange gfpDegreesWrong)

/-- 'knucklebonelaw03.GfdivTells': WHATEVER THE INPUT: true; the input reads as it did. -/
def gfdivTellsSpec : ChangeSpec := { name := "gfdivTells", fn := fun _ => fun
  | [d1, d2] => { results := [.lit (.bool true)], args := [d1, d2] }
  | _ => none }
def gfdivTellsRow : OpenClaim := { program := "ytbngamllllbfpaa", sum := "1eb69491a6f82746a12944ee99cbf75b16b3310a51d12a3619a2def4efad6db4", func := "knucklebone/knucklebonelaw03.GfdivTells", spec := "gfdivTells", unfollowed := true, recurses := true, apart := false }
def GfdivTellsSaid : Prop := gfdivTellsRow.holds Try.pinned (OpenSpec.ofChange gfdivTellsSpec)

/-- ITS FALSE NEIGHBOUR: 'it returns false'. Refute it at one input. -/
def gfdivTellsWrong : ChangeSpec := { name := "gfdivTells", fn := fun _ => fun
  | [d1, d2] => { results := [.lit (.bool false)], args := [d1, d2] }
  | _ => none }
def GfdivTellsWrongFalsely : Prop := gfdivTellsRow.holds Try.pinned (OpenSpec.ofChange gfdivTellsWrong)

/-- 'knucklebonelaw03.GfdivBack': WHATEVER THE INPUT: true; the input reads as it did. -/
def gfdivBackSpec : ChangeSpec := { name := "gfdivBack", fn := fun _ => fun
  | [d1, d2, d3] => { results := [.lit (.bool true)], args := [d1, d2, d3] }
  | _ => none }
def gfdivBackRow : OpenClaim := { program := "ytbngamllllbfpaa", sum := "1eb69491a6f82746a12944ee99cbf75b16b3310a51d12a3619a2def4efad6db4", func := "knucklebone/knucklebonelaw03.GfdivBack", spec := "gfdivBack", unfollowed := true, recurses := true, apart := false }
def GfdivBackSaid : Prop := gfdivBackRow.holds Try.pinned (OpenSpec.ofChange gfdivBackSpec)

/-- ITS FALSE NEIGHBOUR: 'it returns false'. Refute it at one input. -/
def gfdivBackWrong : ChangeSpec := { name := "gfdivBack", fn := fun _ => fun
  | [d1, d2, d3] => { results := [.lit (.bool false)], args := [d1, d2, d3] }
  | _ => none }
def GfdivBackWrongFalsely : Prop := gfdivBackRow.holds Try.pinned (OpenSpec.ofChange gfdivBackWrong)

/-- 'knucklebonelaw03.GfdivGcd': WHATEVER THE INPUT: true; the input reads as it did. -/
def gfdivGcdSpec : ChangeSpec := { name := "gfdivGcd", fn := fun _ => fun
  | [d1, d2, d3] => { results := [.lit (.bool true)], args := [d1, d2, d3] }
  | _ => none }
def gfdivGcdRow : OpenClaim := { program := "ytbngamllllbfpaa", sum := "1eb69491a6f82746a12944ee99cbf75b16b3310a51d12a3619a2def4efad6db4", func := "knucklebone/knucklebonelaw03.GfdivGcd", spec := "gfdivGcd", unfollowed := true, recurses := true, apart := false }
def GfdivGcdSaid : Prop := gfdivGcdRow.holds Try.pinned (OpenSpec.ofChange gfdivGcdSpec)

/-- ITS FALSE NEIGHBOUR: 'it returns false'. Refute it at one input. -/
def gfdivGcdWrong : ChangeSpec := { name := "gfdivGcd", fn := fun _ => fun
  | [d1, d2, d3] => { results := [.lit (.bool false)], args := [d1, d2, d3] }
  | _ => none }
def GfdivGcdWrongFalsely : Prop := gfdivGcdRow.holds Try.pinned (OpenSpec.ofChange gfdivGcdWrong)

/-- 'knucklebonelaw03.GfdivRests': WHATEVER THE INPUT: true; the input reads as it did. -/
def gfdivRestsSpec : ChangeSpec := { name := "gfdivRests", fn := fun _ => fun
  | [d1, d2, d3] => { results := [.lit (.bool true)], args := [d1, d2, d3] }
  | _ => none }
def gfdivRestsRow : OpenClaim := { program := "ytbngamllllbfpaa", sum := "1eb69491a6f82746a12944ee99cbf75b16b3310a51d12a3619a2def4efad6db4", func := "knucklebone/knucklebonelaw03.GfdivRests", spec := "gfdivRests", unfollowed := true, recurses := true, apart := false }
def GfdivRestsSaid : Prop := gfdivRestsRow.holds Try.pinned (OpenSpec.ofChange gfdivRestsSpec)

/-- ITS FALSE NEIGHBOUR: 'it returns false'. Refute it at one input. -/
def gfdivRestsWrong : ChangeSpec := { name := "gfdivRests", fn := fun _ => fun
  | [d1, d2, d3] => { results := [.lit (.bool false)], args := [d1, d2, d3] }
  | _ => none }
def GfdivRestsWrongFalsely : Prop := gfdivRestsRow.holds Try.pinned (OpenSpec.ofChange gfdivRestsWrong)

/-- 'knucklebonelaw05.MasseyTells': WHATEVER THE INPUT: true; the input reads as it did. -/
def masseyTellsSpec : ChangeSpec := { name := "masseyTells", fn := fun _ => fun
  | [d1, d2, d3] => { results := [.lit (.bool true)], args := [d1, d2, d3] }
  | _ => none }
def masseyTellsRow : OpenClaim := { program := "ytbngamllllbfpaa", sum := "1eb69491a6f82746a12944ee99cbf75b16b3310a51d12a3619a2def4efad6db4", func := "knucklebone/knucklebonelaw05.MasseyTells", spec := "masseyTells", unfollowed := true, recurses := true, apart := false }
def MasseyTellsSaid : Prop := masseyTellsRow.holds Try.pinned (OpenSpec.ofChange masseyTellsSpec)

/-- ITS FALSE NEIGHBOUR: 'it returns false'. Refute it at one input. -/
def masseyTellsWrong : ChangeSpec := { name := "masseyTells", fn := fun _ => fun
  | [d1, d2, d3] => { results := [.lit (.bool false)], args := [d1, d2, d3] }
  | _ => none }
def MasseyTellsWrongFalsely : Prop := masseyTellsRow.holds Try.pinned (OpenSpec.ofChange masseyTellsWrong)

/-- 'knucklebonelaw05.MasseyRule': WHATEVER THE INPUT: true; the input reads as it did. -/
def masseyRuleSpec : ChangeSpec := { name := "masseyRule", fn := fun _ => fun
  | [d1, d2] => { results := [.lit (.bool true)], args := [d1, d2] }
  | _ => none }
def masseyRuleRow : OpenClaim := { program := "ytbngamllllbfpaa", sum := "1eb69491a6f82746a12944ee99cbf75b16b3310a51d12a3619a2def4efad6db4", func := "knucklebone/knucklebonelaw05.MasseyRule", spec := "masseyRule", unfollowed := true, recurses := true, apart := false }
def MasseyRuleSaid : Prop := masseyRuleRow.holds Try.pinned (OpenSpec.ofChange masseyRuleSpec)

/-- ITS FALSE NEIGHBOUR: 'it returns false'. Refute it at one input. -/
def masseyRuleWrong : ChangeSpec := { name := "masseyRule", fn := fun _ => fun
  | [d1, d2] => { results := [.lit (.bool false)], args := [d1, d2] }
  | _ => none }
def MasseyRuleWrongFalsely : Prop := masseyRuleRow.holds Try.pinned (OpenSpec.ofChange masseyRuleWrong)

/-- 'knucklebonelaw05.MasseyNone': WHATEVER THE INPUT: true; the input reads as it did. -/
def masseyNoneSpec : ChangeSpec := { name := "masseyNone", fn := fun _ => fun
  | [d1, d2, d3] => { results := [.lit (.bool true)], args := [d1, d2, d3] }
  | _ => none }
def masseyNoneRow : OpenClaim := { program := "ytbngamllllbfpaa", sum := "1eb69491a6f82746a12944ee99cbf75b16b3310a51d12a3619a2def4efad6db4", func := "knucklebone/knucklebonelaw05.MasseyNone", spec := "masseyNone", unfollowed := true, recurses := true, apart := false }
def MasseyNoneSaid : Prop := masseyNoneRow.holds Try.pinned (OpenSpec.ofChange masseyNoneSpec)

/-- ITS FALSE NEIGHBOUR: 'it returns false'. Refute it at one input. -/
def masseyNoneWrong : ChangeSpec := { name := "masseyNone", fn := fun _ => fun
  | [d1, d2, d3] => { results := [.lit (.bool false)], args := [d1, d2, d3] }
  | _ => none }
def MasseyNoneWrongFalsely : Prop := masseyNoneRow.holds Try.pinned (OpenSpec.ofChange masseyNoneWrong)

/-- 'knucklebonelaw05.MasseyGoes': WHATEVER THE INPUT: true; the input reads as it did. -/
def masseyGoesSpec : ChangeSpec := { name := "masseyGoes", fn := fun _ => fun
  | [d1, d2, d3] => { results := [.lit (.bool true)], args := [d1, d2, d3] }
  | _ => none }
def masseyGoesRow : OpenClaim := { program := "ytbngamllllbfpaa", sum := "1eb69491a6f82746a12944ee99cbf75b16b3310a51d12a3619a2def4efad6db4", func := "knucklebone/knucklebonelaw05.MasseyGoes", spec := "masseyGoes", unfollowed := true, recurses := true, apart := false }
def MasseyGoesSaid : Prop := masseyGoesRow.holds Try.pinned (OpenSpec.ofChange masseyGoesSpec)

/-- ITS FALSE NEIGHBOUR: 'it returns false'. Refute it at one input. -/
def masseyGoesWrong : ChangeSpec := { name := "masseyGoes", fn := fun _ => fun
  | [d1, d2, d3] => { results := [.lit (.bool false)], args := [d1, d2, d3] }
  | _ => none }
def MasseyGoesWrongFalsely : Prop := masseyGoesRow.holds Try.pinned (OpenSpec.ofChange masseyGoesWrong)

/- THE SECOND FORM. 'bulk': how many values and letters a reading holds, each counted each time it is reached (what is shared counts as often as it is met; a slice's spare places count too). A statement '..UptoSaid' is the law's where the arguments, and the package variables that the reading takes, are together of bulk at most 1048576: NARROWER than '..Said'. Prove '..Said' where nothing that the law and all that it calls make is longer than what came in: it says more and counts as full. Else prove '..UptoSaid'. A law counts once. -/
mutual
def uptoBulk {H : Type} : DataW H → Nat
  | .lit (.string bytes) => bytes.length + 1
  | .lit _ => 1
  | .nil => 1
  | .ptr d => uptoBulk d + 1
  | .slice elems spare => uptoBulkAll elems + uptoBulkAll spare + 1
  | .agg parts => uptoBulkAll parts + 1
  | .iface _ d => uptoBulk d + 1
  | .map entries => uptoBulkEntries entries + 1
  | .held _ => 1
def uptoBulkAll {H : Type} : List (DataW H) → Nat
  | [] => 0
  | d :: r => uptoBulk d + uptoBulkAll r
def uptoBulkEntries {H : Type} : List (Lit × DataW H) → Nat
  | [] => 0
  | x :: r => uptoBulkEntry x + uptoBulkEntries r
def uptoBulkEntry {H : Type} : Lit × DataW H → Nat
  | (.string bytes, d) => bytes.length + uptoBulk d + 1
  | (_, d) => uptoBulk d + 1
 end
def uptoSmall : (H : Type) → List (DataW H) → Bool := fun _ ds => decide (uptoBulkAll ds ≤ 1048576)
def OpenSpec.upto (s : _root_.Go.ChangeSpec) : _root_.Go.OpenSpec := { _root_.Go.OpenSpec.ofChange s with cond := some uptoSmall }

/-- 'knucklebonelaw02.GfpTells', WHERE WHAT IT READS IS OF BULK AT MOST 1048576: true; the input reads as it did. -/
def gfpTellsUptoRow : OpenClaim := { program := "ytbngamllllbfpaa", sum := "1eb69491a6f82746a12944ee99cbf75b16b3310a51d12a3619a2def4efad6db4", func := "knucklebone/knucklebonelaw02.GfpTells", spec := "gfpTells", unfollowed := true, recurses := true, apart := false, narrowed := true }
def GfpTellsUptoSaid : Prop := gfpTellsUptoRow.holds Try.pinned (OpenSpec.upto gfpTellsSpec)

/-- 'knucklebonelaw02.GfpRing', WHERE WHAT IT READS IS OF BULK AT MOST 1048576: true; the input reads as it did. -/
def gfpRingUptoRow : OpenClaim := { program := "ytbngamllllbfpaa", sum := "1eb69491a6f82746a12944ee99cbf75b16b3310a51d12a3619a2def4efad6db4", func := "knucklebone/knucklebonelaw02.GfpRing", spec := "gfpRing", unfollowed := true, recurses := true, apart := false, narrowed := true }
def GfpRingUptoSaid : Prop := gfpRingUptoRow.holds Try.pinned (OpenSpec.upto gfpRingSpec)

/-- 'knucklebonelaw02.GfpSquares', WHERE WHAT IT READS IS OF BULK AT MOST 1048576: true; the input reads as it did. -/
def gfpSquaresUptoRow : OpenClaim := { program := "ytbngamllllbfpaa", sum := "1eb69491a6f82746a12944ee99cbf75b16b3310a51d12a3619a2def4efad6db4", func := "knucklebone/knucklebonelaw02.GfpSquares", spec := "gfpSquares", unfollowed := true, recurses := true, apart := false, narrowed := true }
def GfpSquaresUptoSaid : Prop := gfpSquaresUptoRow.holds Try.pinned (OpenSpec.upto gfpSquaresSpec)

/-- 'knucklebonelaw02.GfpDegrees', WHERE WHAT IT READS IS OF BULK AT MOST 1048576: true; the input reads as it did. -/
def gfpDegreesUptoRow : OpenClaim := { program := "ytbngamllllbfpaa", sum := "1eb69491a6f82746a12944ee99cbf75b16b3310a51d12a3619a2def4efad6db4", func := "knucklebone/knucklebonelaw02.GfpDegrees", spec := "gfpDegrees", unfollowed := true, recurses := true, apart := false, narrowed := true }
def GfpDegreesUptoSaid : Prop := gfpDegreesUptoRow.holds Try.pinned (OpenSpec.upto gfpDegreesSpec)

/-- 'knucklebonelaw03.GfdivTells', WHERE WHAT IT READS IS OF BULK AT MOST 1048576: true; the input reads as it did. -/
def gfdivTellsUptoRow : OpenClaim := { program := "ytbngamllllbfpaa", sum := "1eb69491a6f82746a12944ee99cbf75b16b3310a51d12a3619a2def4efad6db4", func := "knucklebone/knucklebonelaw03.GfdivTells", spec := "gfdivTells", unfollowed := true, recurses := true, apart := false, narrowed := true }
def GfdivTellsUptoSaid : Prop := gfdivTellsUptoRow.holds Try.pinned (OpenSpec.upto gfdivTellsSpec)

/-- 'knucklebonelaw03.GfdivBack', WHERE WHAT IT READS IS OF BULK AT MOST 1048576: true; the input reads as it did. -/
def gfdivBackUptoRow : OpenClaim := { program := "ytbngamllllbfpaa", sum := "1eb69491a6f82746a12944ee99cbf75b16b3310a51d12a3619a2def4efad6db4", func := "knucklebone/knucklebonelaw03.GfdivBack", spec := "gfdivBack", unfollowed := true, recurses := true, apart := false, narrowed := true }
def GfdivBackUptoSaid : Prop := gfdivBackUptoRow.holds Try.pinned (OpenSpec.upto gfdivBackSpec)

/-- 'knucklebonelaw03.GfdivGcd', WHERE WHAT IT READS IS OF BULK AT MOST 1048576: true; the input reads as it did. -/
def gfdivGcdUptoRow : OpenClaim := { program := "ytbngamllllbfpaa", sum := "1eb69491a6f82746a12944ee99cbf75b16b3310a51d12a3619a2def4efad6db4", func := "knucklebone/knucklebonelaw03.GfdivGcd", spec := "gfdivGcd", unfollowed := true, recurses := true, apart := false, narrowed := true }
def GfdivGcdUptoSaid : Prop := gfdivGcdUptoRow.holds Try.pinned (OpenSpec.upto gfdivGcdSpec)

/-- 'knucklebonelaw03.GfdivRests', WHERE WHAT IT READS IS OF BULK AT MOST 1048576: true; the input reads as it did. -/
def gfdivRestsUptoRow : OpenClaim := { program := "ytbngamllllbfpaa", sum := "1eb69491a6f82746a12944ee99cbf75b16b3310a51d12a3619a2def4efad6db4", func := "knucklebone/knucklebonelaw03.GfdivRests", spec := "gfdivRests", unfollowed := true, recurses := true, apart := false, narrowed := true }
def GfdivRestsUptoSaid : Prop := gfdivRestsUptoRow.holds Try.pinned (OpenSpec.upto gfdivRestsSpec)

/-- 'knucklebonelaw05.MasseyTells', WHERE WHAT IT READS IS OF BULK AT MOST 1048576: true; the input reads as it did. -/
def masseyTellsUptoRow : OpenClaim := { program := "ytbngamllllbfpaa", sum := "1eb69491a6f82746a12944ee99cbf75b16b3310a51d12a3619a2def4efad6db4", func := "knucklebone/knucklebonelaw05.MasseyTells", spec := "masseyTells", unfollowed := true, recurses := true, apart := false, narrowed := true }
def MasseyTellsUptoSaid : Prop := masseyTellsUptoRow.holds Try.pinned (OpenSpec.upto masseyTellsSpec)

/-- 'knucklebonelaw05.MasseyRule', WHERE WHAT IT READS IS OF BULK AT MOST 1048576: true; the input reads as it did. -/
def masseyRuleUptoRow : OpenClaim := { program := "ytbngamllllbfpaa", sum := "1eb69491a6f82746a12944ee99cbf75b16b3310a51d12a3619a2def4efad6db4", func := "knucklebone/knucklebonelaw05.MasseyRule", spec := "masseyRule", unfollowed := true, recurses := true, apart := false, narrowed := true }
def MasseyRuleUptoSaid : Prop := masseyRuleUptoRow.holds Try.pinned (OpenSpec.upto masseyRuleSpec)

/-- 'knucklebonelaw05.MasseyNone', WHERE WHAT IT READS IS OF BULK AT MOST 1048576: true; the input reads as it did. -/
def masseyNoneUptoRow : OpenClaim := { program := "ytbngamllllbfpaa", sum := "1eb69491a6f82746a12944ee99cbf75b16b3310a51d12a3619a2def4efad6db4", func := "knucklebone/knucklebonelaw05.MasseyNone", spec := "masseyNone", unfollowed := true, recurses := true, apart := false, narrowed := true }
def MasseyNoneUptoSaid : Prop := masseyNoneUptoRow.holds Try.pinned (OpenSpec.upto masseyNoneSpec)

/-- 'knucklebonelaw05.MasseyGoes', WHERE WHAT IT READS IS OF BULK AT MOST 1048576: true; the input reads as it did. -/
def masseyGoesUptoRow : OpenClaim := { program := "ytbngamllllbfpaa", sum := "1eb69491a6f82746a12944ee99cbf75b16b3310a51d12a3619a2def4efad6db4", func := "knucklebone/knucklebonelaw05.MasseyGoes", spec := "masseyGoes", unfollowed := true, recurses := true, apart := false, narrowed := true }
def MasseyGoesUptoSaid : Prop := masseyGoesUptoRow.holds Try.pinned (OpenSpec.upto masseyGoesSpec)

end Rows
end Go.Proofs.Ytbngamllllbfpaa
