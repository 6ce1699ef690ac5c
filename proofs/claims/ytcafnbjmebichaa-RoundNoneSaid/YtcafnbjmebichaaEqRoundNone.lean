/- What the walks come to, each at arguments of one shape. No conditions. -/
import Derived.Test.YtcafnbjmebichaaVmr
import Derived.Test.YtcafnbjmebichaaVmD
import Derived.KernelRfl
open Go Go.VM
namespace Go.Proofs.Ytcafnbjmebichaa
set_option maxRecDepth 100000

theorem noneV {β : Type} (K : V → List Reg → R β) (k a b c : Int) : R4.run [.int .i64 k, .nd 23 [.int .i64 a, .int .i64 b, .int .i64 c]] [] K = K (.bool (andB (eqI 0 0) (andB (eqI 0 0) (eqI 0 0)))) [] := by kernel_rfl
end Go.Proofs.Ytcafnbjmebichaa
