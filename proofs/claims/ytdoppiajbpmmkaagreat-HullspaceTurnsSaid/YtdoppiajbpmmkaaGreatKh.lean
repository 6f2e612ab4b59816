/- A part of the proof that the law returns true at every input and that the input reads behind the call as it read before; this part states nothing of its own that needs a condition of the input. -/
import Derived.Test.YtdoppiajbpmmkaaGreatKg
import Derived.Test.YtdoppiajbpmmkaaGreatGb
set_option linter.unusedVariables false
set_option linter.unusedSimpArgs false
set_option linter.unnecessarySimpa false
namespace Go.Proofs.YtdoppiajbpmmkaaGreat
open Go Go.Vc Go.RowKit
set_option maxHeartbeats 8000000
/-! KDQ -/
abbrev ep (a b : Int) : AV := .val (.agg #[.int .i64 a, .int .i64 b])
end Go.Proofs.YtdoppiajbpmmkaaGreat
