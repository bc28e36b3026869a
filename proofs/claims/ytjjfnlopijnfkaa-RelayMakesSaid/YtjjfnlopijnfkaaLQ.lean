/- The library: facts about walks, over any program. -/
import Derived.Test.YtjjfnlopijnfkaaLP
import Derived.Laws.StructEq
set_option linter.unusedVariables false
set_option linter.unusedSimpArgs false
set_option linter.unusedSectionVars false
set_option linter.unusedVariables false
set_option linter.unusedSimpArgs false
namespace Go.SL
open Go
end Go.SL
