/- Closed facts of a row (1). -/
import Derived.Test.YtnccebppgmnmfaaSepFacts
import Derived.Test.YtnccebppgmnmfaaSepQ
import Derived.Test.YtnccebppgmnmfaaRows
import Derived.Test.YtnccebppgmnmfaaChecked
import Derived.Test.YtnccebppgmnmfaaSepT
set_option linter.unusedVariables false
set_option linter.unusedSimpArgs false
set_option maxRecDepth 20000
namespace Go.Proofs.YtnccebppgmnmfaaS
open Go.RowKit Go.Proofs

namespace logStands
open Go.Proofs.Ytnccebppgmnmfaa
theorem c1 : (Rows.logStandsRow.inPlace == Try.prog.inPlace 8) = true := by kernel_rfl
theorem c2 : (Rows.logStandsRow.unfollowed == Try.prog.unfollowed 8) = true := by kernel_rfl
end logStands

end Go.Proofs.YtnccebppgmnmfaaS
