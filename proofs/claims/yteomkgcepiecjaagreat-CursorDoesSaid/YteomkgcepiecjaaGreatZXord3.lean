/- Powers of x that are not 1: by the kernel. -/
import Derived.Test.YteomkgcepiecjaaGreatZXord1
namespace Go.Proofs.YteomkgcepiecjaaGreat.I
open Go
set_option linter.unusedSimpArgs false
set_option linter.unusedVariables false
theorem nZ_641 : ¬ Z 180642884925610289272341630278764286822574079041560942339247400948382417535 := not_Z (by decide +kernel) (by decide +kernel) (by decide +kernel)
theorem nZ_65537 : ¬ Z 1766820105243087041267848467410591083712559083657179364930612997358944255 := not_Z (by decide +kernel) (by decide +kernel) (by decide +kernel)
theorem nZ_274177 : ¬ Z 422326049367073807881663979869529201403728192611490256438204459192102655 := not_Z (by decide +kernel) (by decide +kernel) (by decide +kernel)
theorem nZ_6700417 : ¬ Z 17281325809619937896935516850471830014948321076977830490170624307101055 := not_Z (by decide +kernel) (by decide +kernel) (by decide +kernel)
theorem nZ_67280421310721 : ¬ Z 1721036922503113971692907638171526209875755521904893141463060735 := not_Z (by decide +kernel) (by decide +kernel) (by decide +kernel)
end Go.Proofs.YteomkgcepiecjaaGreat.I
