/- How long a module's lists are. -/
import Derived.Test.YtgpdggjpbmgegaaDoorMach
namespace Go.Proofs.YtgpdggjpbmgegaaDoor
open Go.RowKit
set_option linter.unusedVariables false
set_option linter.unusedSimpArgs false

def LenMod (m : PMod) : Prop := m.thr.length ≤ 140737488355328 ∧ m.funcs.length ≤ 140737488355328 ∧ ∀ i, i < m.funcs.length → (fnAt m i).params.length ≤ 140737488355328 ∧ (fnAt m i).code.length ≤ 140737488355328
def SmallMod (m : PMod) : Prop := m.thr.length ≤ 1048576 ∧ m.funcs.length ≤ 1048576 ∧ ∀ i, i < m.funcs.length → (fnAt m i).params.length ≤ 1048576 ∧ (fnAt m i).code.length ≤ 1048576
end Go.Proofs.YtgpdggjpbmgegaaDoor
