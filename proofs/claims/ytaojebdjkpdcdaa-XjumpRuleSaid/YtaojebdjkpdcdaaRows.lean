/-
  No cell of these rows narrows 'for every input' (looked for: loops, veiled, ifaces, maps, wideKeys, modest, calm, conditions, laid).
  DERIVED. THE GIVEN ROWS OF THIS SEAT. 10 by the template 'for every input the law returns true; each argument reads behind the call as it read before'; 0 by the template 'total and deterministic' (their statements: YtaojebdjkpdcdaaTotals.lean).
  GIVEN WITH THE SEED: the statements are not yours to turn. If you find one false, say at which input.
  Laid BY PROGRAM, IN A SANDBOX (cutbox-rows.mjs): the forced cells as the released guide's own fill.sh prints them over the translation 516d7c953cf5b7c2… (all of the seat's roots in one cut). By AI agents, Wed Nov 11 2026. No macro, syntax, notation, axiom, sorry.
-/
import Derived.Test.YtaojebdjkpdcdaaChecked
import GoSem.Claim
import GoSem.ClaimJoined
import GoSem.ClaimMapViews
import Derived.JoinedTies
import Derived.KernelRfl
namespace Go.Proofs.Ytaojebdjkpdcdaa
/- THE CELL 'sum', in the pinned program and in every row, IS THE sha256 OF THE DUMP (.gsa) THAT YtaojebdjkpdcdaaProg.lean LOADS. Nothing in Lean hashes anything: it is a label: what it is worth is what the hold of that sum in a sandbox is worth. -/
noncomputable def Try.pinned : Pinned := { name := "ytaojebdjkpdcdaa", sum := "516d7c953cf5b7c260a7d396ffb6c20f84493bc8ca2fdba7e8bee80a748bc1ec", checked := Try.checked }
namespace Rows
def none {H : Type} : Left H := { results := [], args := [] }

/-- 'knucklebonelaw04.GfpowTells': WHATEVER THE INPUT: true; the input reads as it did. -/
def gfpowTellsSpec : ChangeSpec := { name := "gfpowTells", fn := fun _ => fun
  | [d1, d2, d3, d4] => { results := [.lit (.bool true)], args := [d1, d2, d3, d4] }
  | _ => none }
def gfpowTellsRow : OpenClaim := { program := "ytaojebdjkpdcdaa", sum := "516d7c953cf5b7c260a7d396ffb6c20f84493bc8ca2fdba7e8bee80a748bc1ec", func := "knucklebone/knucklebonelaw04.GfpowTells", spec := "gfpowTells", unfollowed := true, recurses := true, apart := false }
def GfpowTellsSaid : Prop := gfpowTellsRow.holds Try.pinned (OpenSpec.ofChange gfpowTellsSpec)

/-- ITS FALSE NEIGHBOUR: 'it returns false'. Refute it at one input. -/
def gfpowTellsWrong : ChangeSpec := { name := "gfpowTells", fn := fun _ => fun
  | [d1, d2, d3, d4] => { results := [.lit (.bool false)], args := [d1, d2, d3, d4] }
  | _ => none }
def GfpowTellsWrongFalsely : Prop := gfpowTellsRow.holds Try.pinned (OpenSpec.ofChange gfpowTellsWrong)

/-- 'knucklebonelaw04.GfpowPlain': WHATEVER THE INPUT: true; the input reads as it did. -/
def gfpowPlainSpec : ChangeSpec := { name := "gfpowPlain", fn := fun _ => fun
  | [d1, d2, d3] => { results := [.lit (.bool true)], args := [d1, d2, d3] }
  | _ => none }
def gfpowPlainRow : OpenClaim := { program := "ytaojebdjkpdcdaa", sum := "516d7c953cf5b7c260a7d396ffb6c20f84493bc8ca2fdba7e8bee80a748bc1ec", func := "knucklebone/knucklebonelaw04.GfpowPlain", spec := "gfpowPlain", unfollowed := true, recurses := true, apart := false }
def GfpowPlainSaid : Prop := gfpowPlainRow.holds Try.pinned (OpenSpec.ofChange gfpowPlainSpec)

/-- ITS FALSE NEIGHBOUR: 'it returns false'. Refute it at one input. -/
def gfpowPlainWrong : ChangeSpec := { name := "gfpowPlain", fn := fun _ => fun
  | [d1, d2, d3] => { results := [.lit (.bool false)], args := [d1, d2, d3] }
  | _ => none }
def GfpowPlainWrongFalsely : Prop := gfpowPlainRow.holds Try.pinned (OpenSpec.ofChange gfpowPlainWrong)

/-- 'knucklebonelaw04.GfpowParts': WHATEVER THE INPUT: true; the input reads as it did. -/
def gfpowPartsSpec : ChangeSpec := { name := "gfpowParts", fn := fun _ => fun
  | [d1, d2, d3] => { results := [.lit (.bool true)], args := [d1, d2, d3] }
  | _ => none }
def gfpowPartsRow : OpenClaim := { program := "ytaojebdjkpdcdaa", sum := "516d7c953cf5b7c260a7d396ffb6c20f84493bc8ca2fdba7e8bee80a748bc1ec", func := "knucklebone/knucklebonelaw04.GfpowParts", spec := "gfpowParts", unfollowed := true, recurses := true, apart := false }
def GfpowPartsSaid : Prop := gfpowPartsRow.holds Try.pinned (OpenSpec.ofChange gfpowPartsSpec)

/-- ITS FALSE NEIGHBOUR: 'it returns false'. Refute it at one input. -/
def gfpowPartsWrong : ChangeSpec := { name := "gfpowParts", fn := fun _ => fun
  | [d1, d2, d3] => { results := [.lit (.bool false)], args := [d1, d2, d3] }
  | _ => none }
def GfpowPartsWrongFalsely : Prop := gfpowPartsRow.holds Try.pinned (OpenSpec.ofChange gfpowPartsWrong)

/-- 'knucklebonelaw04.GfpowAdds': WHATEVER THE INPUT: true; the input reads as it did. -/
def gfpowAddsSpec : ChangeSpec := { name := "gfpowAdds", fn := fun _ => fun
  | [d1, d2, d3, d4] => { results := [.lit (.bool true)], args := [d1, d2, d3, d4] }
  | _ => none }
def gfpowAddsRow : OpenClaim := { program := "ytaojebdjkpdcdaa", sum := "516d7c953cf5b7c260a7d396ffb6c20f84493bc8ca2fdba7e8bee80a748bc1ec", func := "knucklebone/knucklebonelaw04.GfpowAdds", spec := "gfpowAdds", unfollowed := true, recurses := true, apart := false }
def GfpowAddsSaid : Prop := gfpowAddsRow.holds Try.pinned (OpenSpec.ofChange gfpowAddsSpec)

/-- ITS FALSE NEIGHBOUR: 'it returns false'. Refute it at one input. -/
def gfpowAddsWrong : ChangeSpec := { name := "gfpowAdds", fn := fun _ => fun
  | [d1, d2, d3, d4] => { results := [.lit (.bool false)], args := [d1, d2, d3, d4] }
  | _ => none }
def GfpowAddsWrongFalsely : Prop := gfpowAddsRow.holds Try.pinned (OpenSpec.ofChange gfpowAddsWrong)

/-- 'knucklebonelaw04.GfpowField': WHATEVER THE INPUT: true; the input reads as it did. -/
def gfpowFieldSpec : ChangeSpec := { name := "gfpowField", fn := fun _ => fun
  | [d1, d2] => { results := [.lit (.bool true)], args := [d1, d2] }
  | _ => none }
def gfpowFieldRow : OpenClaim := { program := "ytaojebdjkpdcdaa", sum := "516d7c953cf5b7c260a7d396ffb6c20f84493bc8ca2fdba7e8bee80a748bc1ec", func := "knucklebone/knucklebonelaw04.GfpowField", spec := "gfpowField", inPlace := ["math/bits.Sub64"], unfollowed := true, recurses := true, apart := false }
def GfpowFieldSaid : Prop := gfpowFieldRow.holds Try.pinned (OpenSpec.ofChange gfpowFieldSpec)

/-- ITS FALSE NEIGHBOUR: 'it returns false'. Refute it at one input. -/
def gfpowFieldWrong : ChangeSpec := { name := "gfpowField", fn := fun _ => fun
  | [d1, d2] => { results := [.lit (.bool false)], args := [d1, d2] }
  | _ => none }
def GfpowFieldWrongFalsely : Prop := gfpowFieldRow.holds Try.pinned (OpenSpec.ofChange gfpowFieldWrong)

/-- 'knucklebonelaw08.XjumpTells': WHATEVER THE INPUT: true; the input reads as it did. -/
def xjumpTellsSpec : ChangeSpec := { name := "xjumpTells", fn := fun _ => fun
  | [d1, d2, d3, d4] => { results := [.lit (.bool true)], args := [d1, d2, d3, d4] }
  | _ => none }
def xjumpTellsRow : OpenClaim := { program := "ytaojebdjkpdcdaa", sum := "516d7c953cf5b7c260a7d396ffb6c20f84493bc8ca2fdba7e8bee80a748bc1ec", func := "knucklebone/knucklebonelaw08.XjumpTells", spec := "xjumpTells", unfollowed := true, recurses := true, apart := false }
def XjumpTellsSaid : Prop := xjumpTellsRow.holds Try.pinned (OpenSpec.ofChange xjumpTellsSpec)

/-- ITS FALSE NEIGHBOUR: 'it returns false'. Refute it at one input. -/
def xjumpTellsWrong : ChangeSpec := { name := "xjumpTells", fn := fun _ => fun
  | [d1, d2, d3, d4] => { results := [.lit (.bool false)], args := [d1, d2, d3, d4] }
  | _ => none }
def XjumpTellsWrongFalsely : Prop := xjumpTellsRow.holds Try.pinned (OpenSpec.ofChange xjumpTellsWrong)

/-- 'knucklebonelaw08.XjumpSteps': WHATEVER THE INPUT: true; the input reads as it did. -/
def xjumpStepsSpec : ChangeSpec := { name := "xjumpSteps", fn := fun _ => fun
  | [d1, d2] => { results := [.lit (.bool true)], args := [d1, d2] }
  | _ => none }
def xjumpStepsRow : OpenClaim := { program := "ytaojebdjkpdcdaa", sum := "516d7c953cf5b7c260a7d396ffb6c20f84493bc8ca2fdba7e8bee80a748bc1ec", func := "knucklebone/knucklebonelaw08.XjumpSteps", spec := "xjumpSteps", unfollowed := true, recurses := true, apart := false }
def XjumpStepsSaid : Prop := xjumpStepsRow.holds Try.pinned (OpenSpec.ofChange xjumpStepsSpec)

/-- ITS FALSE NEIGHBOUR: 'it returns false'. Refute it at one input. -/
def xjumpStepsWrong : ChangeSpec := { name := "xjumpSteps", fn := fun _ => fun
  | [d1, d2] => { results := [.lit (.bool false)], args := [d1, d2] }
  | _ => none }
def XjumpStepsWrongFalsely : Prop := xjumpStepsRow.holds Try.pinned (OpenSpec.ofChange xjumpStepsWrong)

/-- 'knucklebonelaw08.XjumpApart': WHATEVER THE INPUT: true; the input reads as it did. -/
def xjumpApartSpec : ChangeSpec := { name := "xjumpApart", fn := fun _ => fun
  | [d1, d2, d3] => { results := [.lit (.bool true)], args := [d1, d2, d3] }
  | _ => none }
def xjumpApartRow : OpenClaim := { program := "ytaojebdjkpdcdaa", sum := "516d7c953cf5b7c260a7d396ffb6c20f84493bc8ca2fdba7e8bee80a748bc1ec", func := "knucklebone/knucklebonelaw08.XjumpApart", spec := "xjumpApart", unfollowed := true, recurses := true, apart := false }
def XjumpApartSaid : Prop := xjumpApartRow.holds Try.pinned (OpenSpec.ofChange xjumpApartSpec)

/-- ITS FALSE NEIGHBOUR: 'it returns false'. Refute it at one input. -/
def xjumpApartWrong : ChangeSpec := { name := "xjumpApart", fn := fun _ => fun
  | [d1, d2, d3] => { results := [.lit (.bool false)], args := [d1, d2, d3] }
  | _ => none }
def XjumpApartWrongFalsely : Prop := xjumpApartRow.holds Try.pinned (OpenSpec.ofChange xjumpApartWrong)

/-- 'knucklebonelaw08.XjumpRule': WHATEVER THE INPUT: true; the input reads as it did. -/
def xjumpRuleSpec : ChangeSpec := { name := "xjumpRule", fn := fun _ => fun
  | [d1, d2] => { results := [.lit (.bool true)], args := [d1, d2] }
  | _ => none }
def xjumpRuleRow : OpenClaim := { program := "ytaojebdjkpdcdaa", sum := "516d7c953cf5b7c260a7d396ffb6c20f84493bc8ca2fdba7e8bee80a748bc1ec", func := "knucklebone/knucklebonelaw08.XjumpRule", spec := "xjumpRule", unfollowed := true, recurses := true, apart := false }
def XjumpRuleSaid : Prop := xjumpRuleRow.holds Try.pinned (OpenSpec.ofChange xjumpRuleSpec)

/-- ITS FALSE NEIGHBOUR: 'it returns false'. Refute it at one input. -/
def xjumpRuleWrong : ChangeSpec := { name := "xjumpRule", fn := fun _ => fun
  | [d1, d2] => { results := [.lit (.bool false)], args := [d1, d2] }
  | _ => none }
def XjumpRuleWrongFalsely : Prop := xjumpRuleRow.holds Try.pinned (OpenSpec.ofChange xjumpRuleWrong)

/-- 'knucklebonelaw08.XjumpAdds': WHATEVER THE INPUT: true; the input reads as it did. -/
def xjumpAddsSpec : ChangeSpec := { name := "xjumpAdds", fn := fun _ => fun
  | [d1, d2, d3, d4] => { results := [.lit (.bool true)], args := [d1, d2, d3, d4] }
  | _ => none }
def xjumpAddsRow : OpenClaim := { program := "ytaojebdjkpdcdaa", sum := "516d7c953cf5b7c260a7d396ffb6c20f84493bc8ca2fdba7e8bee80a748bc1ec", func := "knucklebone/knucklebonelaw08.XjumpAdds", spec := "xjumpAdds", inPlace := ["math/bits.Add64"], unfollowed := true, recurses := true, apart := false }
def XjumpAddsSaid : Prop := xjumpAddsRow.holds Try.pinned (OpenSpec.ofChange xjumpAddsSpec)

/-- ITS FALSE NEIGHBOUR: 'it returns false'. Refute it at one input. -/
def xjumpAddsWrong : ChangeSpec := { name := "xjumpAdds", fn := fun _ => fun
  | [d1, d2, d3, d4] => { results := [.lit (.bool false)], args := [d1, d2, d3, d4] }
  | _ => none }
def XjumpAddsWrongFalsely : Prop := xjumpAddsRow.holds Try.pinned (OpenSpec.ofChange xjumpAddsWrong)

/- THE SECOND FORM. 'bulk': how many values and letters a reading holds, each counted each time it is reached (what is shared counts as often as it is met; a slice's spare places count too). A statement '..UptoSaid' is the law's where the arguments, and the package variables that the reading takes, are together of bulk at most 1048576: NARROWER than '..Said'. Prove '..Said' where nothing that the law and all that it calls make is longer than what came in: it says more and counts as full. Else prove '..UptoSaid'. A law counts once. -/
mutual
def uptoBulk {H : Type} : DataW H → Nat
  | .lit (.string bytes) => bytes.length + 1
  | .lit _ => 1
  | .nil => 1
  | .ptr d => uptoBulk d + 1
  | .slice elems spare => uptoBulkAll elems + uptoBulkAll spare + 1
  | .agg parts => uptoBulkAll parts + 1
  | .iface _ d => uptoBulk d + 1
  | .map entries => uptoBulkEntries entries + 1
  | .held _ => 1
def uptoBulkAll {H : Type} : List (DataW H) → Nat
  | [] => 0
  | d :: r => uptoBulk d + uptoBulkAll r
def uptoBulkEntries {H : Type} : List (Lit × DataW H) → Nat
  | [] => 0
  | x :: r => uptoBulkEntry x + uptoBulkEntries r
def uptoBulkEntry {H : Type} : Lit × DataW H → Nat
  | (.string bytes, d) => bytes.length + uptoBulk d + 1
  | (_, d) => uptoBulk d + 1
 end
def uptoSmall : (H : Type) → List (DataW H) → Bool := fun _ ds => decide (uptoBulkAll ds ≤ 1048576)
def OpenSpec.upto (s : _root_.Go.ChangeSpec) : _root_.Go.OpenSpec := { _root_.Go.OpenSpec.ofChange s with cond := some uptoSmall }

/-- 'knucklebonelaw04.GfpowTells', WHERE WHAT IT READS IS OF BULK AT MOST 1048576: true; the input reads as it did. -/
def gfpowTellsUptoRow : OpenClaim := { program := "ytaojebdjkpdcdaa", sum := "516d7c953cf5b7c260a7d396ffb6c20f84493bc8ca2fdba7e8bee80a748bc1ec", func := "knucklebone/knucklebonelaw04.GfpowTells", spec := "gfpowTells", unfollowed := true, recurses := true, apart := false, narrowed := true }
def GfpowTellsUptoSaid : Prop := gfpowTellsUptoRow.holds Try.pinned (OpenSpec.upto gfpowTellsSpec)

/-- 'knucklebonelaw04.GfpowPlain', WHERE WHAT IT READS IS OF BULK AT MOST 1048576: true; the input reads as it did. -/
def gfpowPlainUptoRow : OpenClaim := { program := "ytaojebdjkpdcdaa", sum := "516d7c953cf5b7c260a7d396ffb6c20f84493bc8ca2fdba7e8bee80a748bc1ec", func := "knucklebone/knucklebonelaw04.GfpowPlain", spec := "gfpowPlain", unfollowed := true, recurses := true, apart := false, narrowed := true }
def GfpowPlainUptoSaid : Prop := gfpowPlainUptoRow.holds Try.pinned (OpenSpec.upto gfpowPlainSpec)

/-- 'knucklebonelaw04.GfpowParts', WHERE WHAT IT READS IS OF BULK AT MOST 1048576: true; the input reads as it did. -/
def gfpowPartsUptoRow : OpenClaim := { program := "ytaojebdjkpdcdaa", sum := "516d7c953cf5b7c260a7d396ffb6c20f84493bc8ca2fdba7e8bee80a748bc1ec", func := "knucklebone/knucklebonelaw04.GfpowParts", spec := "gfpowParts", unfollowed := true, recurses := true, apart := false, narrowed := true }
def GfpowPartsUptoSaid : Prop := gfpowPartsUptoRow.holds Try.pinned (OpenSpec.upto gfpowPartsSpec)

/-- 'knucklebonelaw04.GfpowAdds', WHERE WHAT IT READS IS OF BULK AT MOST 1048576: true; the input reads as it did. -/
def gfpowAddsUptoRow : OpenClaim := { program := "ytaojebdjkpdcdaa", sum := "516d7c953cf5b7c260a7d396ffb6c20f84493bc8ca2fdba7e8bee80a748bc1ec", func := "knucklebone/knucklebonelaw04.GfpowAdds", spec := "gfpowAdds", unfollowed := true, recurses := true, apart := false, narrowed := true }
def GfpowAddsUptoSaid : Prop := gfpowAddsUptoRow.holds Try.pinned (OpenSpec.upto gfpowAddsSpec)

/-- 'knucklebonelaw04.GfpowField', WHERE WHAT IT READS IS OF BULK AT MOST 1048576: true; the input reads as it did. -/
def gfpowFieldUptoRow : OpenClaim := { program := "ytaojebdjkpdcdaa", sum := "516d7c953cf5b7c260a7d396ffb6c20f84493bc8ca2fdba7e8bee80a748bc1ec", func := "knucklebone/knucklebonelaw04.GfpowField", spec := "gfpowField", inPlace := ["math/bits.Sub64"], unfollowed := true, recurses := true, apart := false, narrowed := true }
def GfpowFieldUptoSaid : Prop := gfpowFieldUptoRow.holds Try.pinned (OpenSpec.upto gfpowFieldSpec)

/-- 'knucklebonelaw08.XjumpTells', WHERE WHAT IT READS IS OF BULK AT MOST 1048576: true; the input reads as it did. -/
def xjumpTellsUptoRow : OpenClaim := { program := "ytaojebdjkpdcdaa", sum := "516d7c953cf5b7c260a7d396ffb6c20f84493bc8ca2fdba7e8bee80a748bc1ec", func := "knucklebone/knucklebonelaw08.XjumpTells", spec := "xjumpTells", unfollowed := true, recurses := true, apart := false, narrowed := true }
def XjumpTellsUptoSaid : Prop := xjumpTellsUptoRow.holds Try.pinned (OpenSpec.upto xjumpTellsSpec)

/-- 'knucklebonelaw08.XjumpSteps', WHERE WHAT IT READS IS OF BULK AT MOST 1048576: true; the input reads as it did. -/
def xjumpStepsUptoRow : OpenClaim := { program := "ytaojebdjkpdcdaa", sum := "516d7c953cf5b7c260a7d396ffb6c20f84493bc8ca2fdba7e8bee80a748bc1ec", func := "knucklebone/knucklebonelaw08.XjumpSteps", spec := "xjumpSteps", unfollowed := true, recurses := true, apart := false, narrowed := true }
def XjumpStepsUptoSaid : Prop := xjumpStepsUptoRow.holds Try.pinned (OpenSpec.upto xjumpStepsSpec)

/-- 'knucklebonelaw08.XjumpApart', WHERE WHAT IT READS IS OF BULK AT MOST 1048576: true; the input reads as it did. -/
def xjumpApartUptoRow : OpenClaim := { program := "ytaojebdjkpdcdaa", sum := "516d7c953cf5b7c260a7d396ffb6c20f84493bc8ca2fdba7e8bee80a748bc1ec", func := "knucklebone/knucklebonelaw08.XjumpApart", spec := "xjumpApart", unfollowed := true, recurses := true, apart := false, narrowed := true }
def XjumpApartUptoSaid : Prop := xjumpApartUptoRow.holds Try.pinned (OpenSpec.upto xjumpApartSpec)

/-- 'knucklebonelaw08.XjumpRule', WHERE WHAT IT READS IS OF BULK AT MOST 1048576: true; the input reads as it did. -/
def xjumpRuleUptoRow : OpenClaim := { program := "ytaojebdjkpdcdaa", sum := "516d7c953cf5b7c260a7d396ffb6c20f84493bc8ca2fdba7e8bee80a748bc1ec", func := "knucklebone/knucklebonelaw08.XjumpRule", spec := "xjumpRule", unfollowed := true, recurses := true, apart := false, narrowed := true }
def XjumpRuleUptoSaid : Prop := xjumpRuleUptoRow.holds Try.pinned (OpenSpec.upto xjumpRuleSpec)

/-- 'knucklebonelaw08.XjumpAdds', WHERE WHAT IT READS IS OF BULK AT MOST 1048576: true; the input reads as it did. -/
def xjumpAddsUptoRow : OpenClaim := { program := "ytaojebdjkpdcdaa", sum := "516d7c953cf5b7c260a7d396ffb6c20f84493bc8ca2fdba7e8bee80a748bc1ec", func := "knucklebone/knucklebonelaw08.XjumpAdds", spec := "xjumpAdds", inPlace := ["math/bits.Add64"], unfollowed := true, recurses := true, apart := false, narrowed := true }
def XjumpAddsUptoSaid : Prop := xjumpAddsUptoRow.holds Try.pinned (OpenSpec.upto xjumpAddsSpec)

end Rows
end Go.Proofs.Ytaojebdjkpdcdaa
