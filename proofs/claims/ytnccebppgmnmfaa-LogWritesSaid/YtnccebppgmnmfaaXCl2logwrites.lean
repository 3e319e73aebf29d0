/- Closed facts of a row (2). -/
import Derived.Test.YtnccebppgmnmfaaSepFacts
import Derived.Test.YtnccebppgmnmfaaSepQ
import Derived.Test.YtnccebppgmnmfaaRows
import Derived.Test.YtnccebppgmnmfaaChecked
import Derived.Test.YtnccebppgmnmfaaSepT
set_option linter.unusedVariables false
set_option linter.unusedSimpArgs false
set_option maxRecDepth 20000
namespace Go.Proofs.YtnccebppgmnmfaaS
open Go.RowKit Go.Proofs

namespace logWrites
open Go.Proofs.Ytnccebppgmnmfaa
theorem c3 : (Rows.logWritesRow.recurses == Try.prog.recurses 7) = true := by kernel_rfl
theorem c4 : (Rows.logWritesRow.named == Try.prog.varsNamed 7) = true := by kernel_rfl
end logWrites

end Go.Proofs.YtnccebppgmnmfaaS
