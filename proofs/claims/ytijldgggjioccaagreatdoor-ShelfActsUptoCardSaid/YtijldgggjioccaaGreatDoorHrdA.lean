/- part -/
import Derived.Test.YtijldgggjioccaaGreatDoorHrdPP
import Derived.Test.YtijldgggjioccaaGreatDoorMouBB
import Derived.Test.YtijldgggjioccaaGreatDoorDskVV
import Derived.Test.YtijldgggjioccaaGreatDoorProg
set_option maxRecDepth 100000
set_option maxHeartbeats 4000000
set_option linter.unusedSimpArgs false
set_option linter.unusedVariables false
namespace Go.Hrd
open Go Go.SL Go.Proofs Go.Mou Go.Dsk
attribute [local irreducible] Go.SL.Ent
end Go.Hrd
