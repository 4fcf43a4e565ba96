/- The texts HelpStart of this claim, joined. -/
import Derived.Test.YtomnfkihieinbaaDoorGHelpC
import Derived.Deep.AppendLies
import Derived.Deep.RegionLaw
/- helper: start over bytes that were put together. -/
set_option linter.unusedVariables false
set_option linter.unusedSimpArgs false
namespace Go.Proofs.YtomnfkihieinbaaDoor.PAll
open Go.RowKit Go.Shelf Go.Maps Go.Proofs.YtomnfkihieinbaaDoorW.PrintWords Go.Proofs.YtomnfkihieinbaaDoorW.PrintLast Go.Proofs.YtomnfkihieinbaaDoorW.PrintMore
end Go.Proofs.YtomnfkihieinbaaDoor.PAll
