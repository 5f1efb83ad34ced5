/-
  No cell of these rows narrows 'for every input' (looked for: loops, veiled, ifaces, maps, wideKeys, modest, calm, conditions, laid).
  DERIVED. THE GIVEN ROWS OF THIS SEAT. 9 by the template 'for every input the law returns true; each argument reads behind the call as it read before'; 0 by the template 'total and deterministic' (their statements: YtggpbjhmpipplaaGreatTotals.lean).
  GIVEN WITH THE SEED: the statements are not yours to turn. If you find one false, say at which input.
  Laid BY PROGRAM, IN A SANDBOX (cutbox-rows.mjs): the forced cells as the released guide's own fill.sh prints them over the translation 91ca016ca10efc83… (all of the seat's roots in one cut). By AI agents, Wed Nov 11 2026. No macro, syntax, notation, axiom, sorry.
-/
import Derived.Test.YtggpbjhmpipplaaGreatChecked
import GoSem.Claim
import GoSem.ClaimJoined
import GoSem.ClaimMapViews
import Derived.JoinedTies
import Derived.KernelRfl
namespace Go.Proofs.YtggpbjhmpipplaaGreat
/- THE CELL 'sum', in the pinned program and in every row, IS THE sha256 OF THE DUMP (.gsa) THAT YtggpbjhmpipplaaGreatProg.lean LOADS. Nothing in Lean hashes anything: it is a label: what it is worth is what the hold of that sum in a sandbox is worth. -/
noncomputable def Tryz.pinned : Pinned := { name := "ytggpbjhmpipplaagreat", sum := "91ca016ca10efc83642608ffad3590d4bd9e452768ee1ad114ce65f08b5c56d5", checked := Tryz.checked }
namespace Rows
def none {H : Type} : Left H := { results := [], args := [] }

/-- 'knucklebonelaw14.SeedTells': WHATEVER THE INPUT: true; the input reads as it did. -/
def seedTellsSpec : ChangeSpec := { name := "seedTells", fn := fun _ => fun
  | [d1, d2, d3, d4] => { results := [.lit (.bool true)], args := [d1, d2, d3, d4] }
  | _ => none }
def seedTellsRow : OpenClaim := { program := "ytggpbjhmpipplaagreat", sum := "91ca016ca10efc83642608ffad3590d4bd9e452768ee1ad114ce65f08b5c56d5", func := "knucklebone/knucklebonelaw14.SeedTells", spec := "seedTells", unfollowed := true, recurses := true, apart := false }
def SeedTellsSaid : Prop := seedTellsRow.holds Tryz.pinned (OpenSpec.ofChange seedTellsSpec)

/-- ITS FALSE NEIGHBOUR: 'it returns false'. Refute it at one input. -/
def seedTellsWrong : ChangeSpec := { name := "seedTells", fn := fun _ => fun
  | [d1, d2, d3, d4] => { results := [.lit (.bool false)], args := [d1, d2, d3, d4] }
  | _ => none }
def SeedTellsWrongFalsely : Prop := seedTellsRow.holds Tryz.pinned (OpenSpec.ofChange seedTellsWrong)

/-- 'knucklebonelaw14.SeedRight': WHATEVER THE INPUT: true; the input reads as it did. -/
def seedRightSpec : ChangeSpec := { name := "seedRight", fn := fun _ => fun
  | [d1, d2, d3] => { results := [.lit (.bool true)], args := [d1, d2, d3] }
  | _ => none }
def seedRightRow : OpenClaim := { program := "ytggpbjhmpipplaagreat", sum := "91ca016ca10efc83642608ffad3590d4bd9e452768ee1ad114ce65f08b5c56d5", func := "knucklebone/knucklebonelaw14.SeedRight", spec := "seedRight", unfollowed := true, recurses := true, apart := false }
def SeedRightSaid : Prop := seedRightRow.holds Tryz.pinned (OpenSpec.ofChange seedRightSpec)

/-- ITS FALSE NEIGHBOUR: 'it returns false'. Refute it at one input. -/
def seedRightWrong : ChangeSpec := { name := "seedRight", fn := fun _ => fun
  | [d1, d2, d3] => { results := [.lit (.bool false)], args := [d1, d2, d3] }
  | _ => none }
def SeedRightWrongFalsely : Prop := seedRightRow.holds Tryz.pinned (OpenSpec.ofChange seedRightWrong)

/-- 'knucklebonelaw14.SeedApart': WHATEVER THE INPUT: true; the input reads as it did. -/
def seedApartSpec : ChangeSpec := { name := "seedApart", fn := fun _ => fun
  | [d1, d2, d3, d4, d5] => { results := [.lit (.bool true)], args := [d1, d2, d3, d4, d5] }
  | _ => none }
def seedApartRow : OpenClaim := { program := "ytggpbjhmpipplaagreat", sum := "91ca016ca10efc83642608ffad3590d4bd9e452768ee1ad114ce65f08b5c56d5", func := "knucklebone/knucklebonelaw14.SeedApart", spec := "seedApart", unfollowed := true, recurses := true, apart := false }
def SeedApartSaid : Prop := seedApartRow.holds Tryz.pinned (OpenSpec.ofChange seedApartSpec)

/-- ITS FALSE NEIGHBOUR: 'it returns false'. Refute it at one input. -/
def seedApartWrong : ChangeSpec := { name := "seedApart", fn := fun _ => fun
  | [d1, d2, d3, d4, d5] => { results := [.lit (.bool false)], args := [d1, d2, d3, d4, d5] }
  | _ => none }
def SeedApartWrongFalsely : Prop := seedApartRow.holds Tryz.pinned (OpenSpec.ofChange seedApartWrong)

/-- 'knucklebonelaw14.SeedSome': WHATEVER THE INPUT: true; the input reads as it did. -/
def seedSomeSpec : ChangeSpec := { name := "seedSome", fn := fun _ => fun
  | [d1, d2, d3, d4, d5] => { results := [.lit (.bool true)], args := [d1, d2, d3, d4, d5] }
  | _ => none }
def seedSomeRow : OpenClaim := { program := "ytggpbjhmpipplaagreat", sum := "91ca016ca10efc83642608ffad3590d4bd9e452768ee1ad114ce65f08b5c56d5", func := "knucklebone/knucklebonelaw14.SeedSome", spec := "seedSome", inPlace := ["math/bits.Add64"], unfollowed := true, recurses := true, apart := false }
def SeedSomeSaid : Prop := seedSomeRow.holds Tryz.pinned (OpenSpec.ofChange seedSomeSpec)

/-- ITS FALSE NEIGHBOUR: 'it returns false'. Refute it at one input. -/
def seedSomeWrong : ChangeSpec := { name := "seedSome", fn := fun _ => fun
  | [d1, d2, d3, d4, d5] => { results := [.lit (.bool false)], args := [d1, d2, d3, d4, d5] }
  | _ => none }
def SeedSomeWrongFalsely : Prop := seedSomeRow.holds Tryz.pinned (OpenSpec.ofChange seedSomeWrong)

/-- 'knucklebonelaw13.GenTells': WHATEVER THE INPUT: true; the input reads as it did. -/
def genTellsSpec : ChangeSpec := { name := "genTells", fn := fun _ => fun
  | [d1, d2] => { results := [.lit (.bool true)], args := [d1, d2] }
  | _ => none }
def genTellsRow : OpenClaim := { program := "ytggpbjhmpipplaagreat", sum := "91ca016ca10efc83642608ffad3590d4bd9e452768ee1ad114ce65f08b5c56d5", func := "knucklebone/knucklebonelaw13.GenTells", spec := "genTells", unfollowed := true, recurses := true, apart := false }
def GenTellsSaid : Prop := genTellsRow.holds Tryz.pinned (OpenSpec.ofChange genTellsSpec)

/-- ITS FALSE NEIGHBOUR: 'it returns false'. Refute it at one input. -/
def genTellsWrong : ChangeSpec := { name := "genTells", fn := fun _ => fun
  | [d1, d2] => { results := [.lit (.bool false)], args := [d1, d2] }
  | _ => none }
def GenTellsWrongFalsely : Prop := genTellsRow.holds Tryz.pinned (OpenSpec.ofChange genTellsWrong)

/-- 'knucklebonelaw13.GenReads': WHATEVER THE INPUT: true; the input reads as it did. -/
def genReadsSpec : ChangeSpec := { name := "genReads", fn := fun _ => fun
  | [d] => { results := [.lit (.bool true)], args := [d] }
  | _ => none }
def genReadsRow : OpenClaim := { program := "ytggpbjhmpipplaagreat", sum := "91ca016ca10efc83642608ffad3590d4bd9e452768ee1ad114ce65f08b5c56d5", func := "knucklebone/knucklebonelaw13.GenReads", spec := "genReads", unfollowed := true, recurses := true, apart := false }
def GenReadsSaid : Prop := genReadsRow.holds Tryz.pinned (OpenSpec.ofChange genReadsSpec)

/-- ITS FALSE NEIGHBOUR: 'it returns false'. Refute it at one input. -/
def genReadsWrong : ChangeSpec := { name := "genReads", fn := fun _ => fun
  | [d] => { results := [.lit (.bool false)], args := [d] }
  | _ => none }
def GenReadsWrongFalsely : Prop := genReadsRow.holds Tryz.pinned (OpenSpec.ofChange genReadsWrong)

/-- 'knucklebonelaw13.GenSteps': WHATEVER THE INPUT: true; the input reads as it did. -/
def genStepsSpec : ChangeSpec := { name := "genSteps", fn := fun _ => fun
  | [d1, d2] => { results := [.lit (.bool true)], args := [d1, d2] }
  | _ => none }
def genStepsRow : OpenClaim := { program := "ytggpbjhmpipplaagreat", sum := "91ca016ca10efc83642608ffad3590d4bd9e452768ee1ad114ce65f08b5c56d5", func := "knucklebone/knucklebonelaw13.GenSteps", spec := "genSteps", unfollowed := true, recurses := true, apart := false }
def GenStepsSaid : Prop := genStepsRow.holds Tryz.pinned (OpenSpec.ofChange genStepsSpec)

/-- ITS FALSE NEIGHBOUR: 'it returns false'. Refute it at one input. -/
def genStepsWrong : ChangeSpec := { name := "genSteps", fn := fun _ => fun
  | [d1, d2] => { results := [.lit (.bool false)], args := [d1, d2] }
  | _ => none }
def GenStepsWrongFalsely : Prop := genStepsRow.holds Tryz.pinned (OpenSpec.ofChange genStepsWrong)

/-- 'knucklebonelaw13.GenBack': WHATEVER THE INPUT: true; the input reads as it did. -/
def genBackSpec : ChangeSpec := { name := "genBack", fn := fun _ => fun
  | [d1, d2] => { results := [.lit (.bool true)], args := [d1, d2] }
  | _ => none }
def genBackRow : OpenClaim := { program := "ytggpbjhmpipplaagreat", sum := "91ca016ca10efc83642608ffad3590d4bd9e452768ee1ad114ce65f08b5c56d5", func := "knucklebone/knucklebonelaw13.GenBack", spec := "genBack", unfollowed := true, recurses := true, apart := false }
def GenBackSaid : Prop := genBackRow.holds Tryz.pinned (OpenSpec.ofChange genBackSpec)

/-- ITS FALSE NEIGHBOUR: 'it returns false'. Refute it at one input. -/
def genBackWrong : ChangeSpec := { name := "genBack", fn := fun _ => fun
  | [d1, d2] => { results := [.lit (.bool false)], args := [d1, d2] }
  | _ => none }
def GenBackWrongFalsely : Prop := genBackRow.holds Tryz.pinned (OpenSpec.ofChange genBackWrong)

/-- 'knucklebonelaw13.GenJumps': WHATEVER THE INPUT: true; the input reads as it did. -/
def genJumpsSpec : ChangeSpec := { name := "genJumps", fn := fun _ => fun
  | [d1, d2, d3] => { results := [.lit (.bool true)], args := [d1, d2, d3] }
  | _ => none }
def genJumpsRow : OpenClaim := { program := "ytggpbjhmpipplaagreat", sum := "91ca016ca10efc83642608ffad3590d4bd9e452768ee1ad114ce65f08b5c56d5", func := "knucklebone/knucklebonelaw13.GenJumps", spec := "genJumps", inPlace := ["math/bits.Add64"], unfollowed := true, recurses := true, apart := false }
def GenJumpsSaid : Prop := genJumpsRow.holds Tryz.pinned (OpenSpec.ofChange genJumpsSpec)

/-- ITS FALSE NEIGHBOUR: 'it returns false'. Refute it at one input. -/
def genJumpsWrong : ChangeSpec := { name := "genJumps", fn := fun _ => fun
  | [d1, d2, d3] => { results := [.lit (.bool false)], args := [d1, d2, d3] }
  | _ => none }
def GenJumpsWrongFalsely : Prop := genJumpsRow.holds Tryz.pinned (OpenSpec.ofChange genJumpsWrong)

/- THE SECOND FORM. 'bulk': how many values and letters a reading holds, each counted each time it is reached (what is shared counts as often as it is met; a slice's spare places count too). A statement '..UptoSaid' is the law's where the arguments, and the package variables that the reading takes, are together of bulk at most 1048576: NARROWER than '..Said'. Prove '..Said' where nothing that the law and all that it calls make is longer than what came in: it says more and counts as full. Else prove '..UptoSaid'. A law counts once. -/
mutual
def uptoBulk {H : Type} : DataW H → Nat
  | .lit (.string bytes) => bytes.length + 1
  | .lit _ => 1
  | .nil => 1
  | .ptr d => uptoBulk d + 1
  | .slice elems spare => uptoBulkAll elems + uptoBulkAll spare + 1
  | .agg parts => uptoBulkAll parts + 1
  | .iface _ d => uptoBulk d + 1
  | .map entries => uptoBulkEntries entries + 1
  | .held _ => 1
def uptoBulkAll {H : Type} : List (DataW H) → Nat
  | [] => 0
  | d :: r => uptoBulk d + uptoBulkAll r
def uptoBulkEntries {H : Type} : List (Lit × DataW H) → Nat
  | [] => 0
  | x :: r => uptoBulkEntry x + uptoBulkEntries r
def uptoBulkEntry {H : Type} : Lit × DataW H → Nat
  | (.string bytes, d) => bytes.length + uptoBulk d + 1
  | (_, d) => uptoBulk d + 1
 end
def uptoSmall : (H : Type) → List (DataW H) → Bool := fun _ ds => decide (uptoBulkAll ds ≤ 1048576)
def OpenSpec.upto (s : _root_.Go.ChangeSpec) : _root_.Go.OpenSpec := { _root_.Go.OpenSpec.ofChange s with cond := some uptoSmall }

/-- 'knucklebonelaw14.SeedTells', WHERE WHAT IT READS IS OF BULK AT MOST 1048576: true; the input reads as it did. -/
def seedTellsUptoRow : OpenClaim := { program := "ytggpbjhmpipplaagreat", sum := "91ca016ca10efc83642608ffad3590d4bd9e452768ee1ad114ce65f08b5c56d5", func := "knucklebone/knucklebonelaw14.SeedTells", spec := "seedTells", unfollowed := true, recurses := true, apart := false, narrowed := true }
def SeedTellsUptoSaid : Prop := seedTellsUptoRow.holds Tryz.pinned (OpenSpec.upto seedTellsSpec)

/-- 'knucklebonelaw14.SeedRight', WHERE WHAT IT READS IS OF BULK AT MOST 1048576: true; the input reads as it did. -/
def seedRightUptoRow : OpenClaim := { program := "ytggpbjhmpipplaagreat", sum := "91ca016ca10efc83642608ffad3590d4bd9e452768ee1ad114ce65f08b5c56d5", func := "knucklebone/knucklebonelaw14.SeedRight", spec := "seedRight", unfollowed := true, recurses := true, apart := false, narrowed := true }
def SeedRightUptoSaid : Prop := seedRightUptoRow.holds Tryz.pinned (OpenSpec.upto seedRightSpec)

/-- 'knucklebonelaw14.SeedApart', WHERE WHAT IT READS IS OF BULK AT MOST 1048576: true; the input reads as it did. -/
def seedApartUptoRow : OpenClaim := { program := "ytggpbjhmpipplaagreat", sum := "91ca016ca10efc83642608ffad3590d4bd9e452768ee1ad114ce65f08b5c56d5", func := "knucklebone/knucklebonelaw14.SeedApart", spec := "seedApart", unfollowed := true, recurses := true, apart := false, narrowed := true }
def SeedApartUptoSaid : Prop := seedApartUptoRow.holds Tryz.pinned (OpenSpec.upto seedApartSpec)

/-- 'knucklebonelaw14.SeedSome', WHERE WHAT IT READS IS OF BULK AT MOST 1048576: true; the input reads as it did. -/
def seedSomeUptoRow : OpenClaim := { program := "ytggpbjhmpipplaagreat", sum := "91ca016ca10efc83642608ffad3590d4bd9e452768ee1ad114ce65f08b5c56d5", func := "knucklebone/knucklebonelaw14.SeedSome", spec := "seedSome", inPlace := ["math/bits.Add64"], unfollowed := true, recurses := true, apart := false, narrowed := true }
def SeedSomeUptoSaid : Prop := seedSomeUptoRow.holds Tryz.pinned (OpenSpec.upto seedSomeSpec)

/-- 'knucklebonelaw13.GenTells', WHERE WHAT IT READS IS OF BULK AT MOST 1048576: true; the input reads as it did. -/
def genTellsUptoRow : OpenClaim := { program := "ytggpbjhmpipplaagreat", sum := "91ca016ca10efc83642608ffad3590d4bd9e452768ee1ad114ce65f08b5c56d5", func := "knucklebone/knucklebonelaw13.GenTells", spec := "genTells", unfollowed := true, recurses := true, apart := false, narrowed := true }
def GenTellsUptoSaid : Prop := genTellsUptoRow.holds Tryz.pinned (OpenSpec.upto genTellsSpec)

/-- 'knucklebonelaw13.GenReads', WHERE WHAT IT READS IS OF BULK AT MOST 1048576: true; the input reads as it did. -/
def genReadsUptoRow : OpenClaim := { program := "ytggpbjhmpipplaagreat", sum := "91ca016ca10efc83642608ffad3590d4bd9e452768ee1ad114ce65f08b5c56d5", func := "knucklebone/knucklebonelaw13.GenReads", spec := "genReads", unfollowed := true, recurses := true, apart := false, narrowed := true }
def GenReadsUptoSaid : Prop := genReadsUptoRow.holds Tryz.pinned (OpenSpec.upto genReadsSpec)

/-- 'knucklebonelaw13.GenSteps', WHERE WHAT IT READS IS OF BULK AT MOST 1048576: true; the input reads as it did. -/
def genStepsUptoRow : OpenClaim := { program := "ytggpbjhmpipplaagreat", sum := "91ca016ca10efc83642608ffad3590d4bd9e452768ee1ad114ce65f08b5c56d5", func := "knucklebone/knucklebonelaw13.GenSteps", spec := "genSteps", unfollowed := true, recurses := true, apart := false, narrowed := true }
def GenStepsUptoSaid : Prop := genStepsUptoRow.holds Tryz.pinned (OpenSpec.upto genStepsSpec)

/-- 'knucklebonelaw13.GenBack', WHERE WHAT IT READS IS OF BULK AT MOST 1048576: true; the input reads as it did. -/
def genBackUptoRow : OpenClaim := { program := "ytggpbjhmpipplaagreat", sum := "91ca016ca10efc83642608ffad3590d4bd9e452768ee1ad114ce65f08b5c56d5", func := "knucklebone/knucklebonelaw13.GenBack", spec := "genBack", unfollowed := true, recurses := true, apart := false, narrowed := true }
def GenBackUptoSaid : Prop := genBackUptoRow.holds Tryz.pinned (OpenSpec.upto genBackSpec)

/-- 'knucklebonelaw13.GenJumps', WHERE WHAT IT READS IS OF BULK AT MOST 1048576: true; the input reads as it did. -/
def genJumpsUptoRow : OpenClaim := { program := "ytggpbjhmpipplaagreat", sum := "91ca016ca10efc83642608ffad3590d4bd9e452768ee1ad114ce65f08b5c56d5", func := "knucklebone/knucklebonelaw13.GenJumps", spec := "genJumps", inPlace := ["math/bits.Add64"], unfollowed := true, recurses := true, apart := false, narrowed := true }
def GenJumpsUptoSaid : Prop := genJumpsUptoRow.holds Tryz.pinned (OpenSpec.upto genJumpsSpec)

end Rows
end Go.Proofs.YtggpbjhmpipplaaGreat
