/- Answers that are not taken: functions over one whose true is not awaited. No conditions. -/
import Derived.Test.YtcafnbjmebichaaVmr
import Derived.Test.YtcafnbjmebichaaVmD
open Go.VM
namespace Go.Proofs.Ytcafnbjmebichaa
noncomputable def Z48 : Entry := noTrue R48
noncomputable def Z13 : Entry := ⟨[], runFn (C13 NN [(48, Z48), (49, R49), (50, R50), (51, R51), (52, R52), (53, R53), (54, R54)] []) Try.f13⟩
noncomputable def Z14 : Entry := ⟨[], runFn (C14 NN [(48, Z48), (50, R50)] []) Try.f14⟩
noncomputable def Z15 : Entry := ⟨[], runFn (C15 NN [(48, Z48), (55, R55)] []) Try.f15⟩
end Go.Proofs.Ytcafnbjmebichaa
