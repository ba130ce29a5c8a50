/- The laws in plain form, printed. Conditions: none. -/
import Derived.Test.YtihdfkdinfmhlaaF3
set_option linter.unusedVariables false
set_option linter.unusedSimpArgs false
set_option maxRecDepth 10000
namespace Go.Proofs.YtihdfkdinfmhlaaS
open Go Go.Proofs
noncomputable def E4 (N : Nat) : Env := (E3 N).add 10 f10O
theorem E4_ok (N : Nat) : (E4 N).Ok := (E3_ok N).add f10_spec
end Go.Proofs.YtihdfkdinfmhlaaS
