/- Lists of structs: what simp needs. -/
import Derived.Test.YteomkgcepiecjaaGreatZM3
namespace Go.Proofs.YteomkgcepiecjaaGreat.I
open Go
section
variable {α : Type} (e : α → V)
end
@[go_sem] theorem tL_encs {α : Type} (A : Ty α) (l : List α) : (tL A).enc l = .sl (els A.enc l) := rfl
end Go.Proofs.YteomkgcepiecjaaGreat.I
