/- Powers of x that are not 1: by the kernel. -/
import Derived.Test.YteomkgcepiecjaaGreatZXord1
namespace Go.Proofs.YteomkgcepiecjaaGreat.I
open Go
set_option linter.unusedSimpArgs false
set_option linter.unusedVariables false
theorem nZ_3 : ¬ Z 38597363079105398474523661669562635951089994888546854679819194669304376546645 := not_Z (by decide +kernel) (by decide +kernel) (by decide +kernel)
theorem nZ_5 : ¬ Z 23158417847463239084714197001737581570653996933128112807891516801582625927987 := not_Z (by decide +kernel) (by decide +kernel) (by decide +kernel)
theorem nZ_17 : ¬ Z 6811299366900952671974763824040465167839410862684739061144563765171360567055 := not_Z (by decide +kernel) (by decide +kernel) (by decide +kernel)
theorem nZ_257 : ¬ Z 450552876409790643671482431940419874915447411150352389258589821042463539455 := not_Z (by decide +kernel) (by decide +kernel) (by decide +kernel)
end Go.Proofs.YteomkgcepiecjaaGreat.I
