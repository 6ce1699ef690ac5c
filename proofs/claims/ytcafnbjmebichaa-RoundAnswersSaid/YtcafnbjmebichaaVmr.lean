/- For each function its walk, over the functions and loops that are told by what they do. No conditions. -/
import Derived.Test.YtcafnbjmebichaaVmf
open Go.VM
namespace Go.Proofs.Ytcafnbjmebichaa

noncomputable def R16 : Entry := ⟨[], runFn (C16 NN [] []) Try.f16⟩
noncomputable def R49 : Entry := ⟨[], extClone T 3⟩
noncomputable def R18 : Entry := ⟨[], runFn (C18 NN [(49, R49)] []) Try.f18⟩
noncomputable def R12 : Entry := ⟨[], runFn (C12 NN [(16, R16), (18, R18)] []) Try.f12⟩
noncomputable def R120 : Entry := ⟨[], runFn (C120 NN [] []) Try.f120⟩
noncomputable def R88 : Entry := ⟨[], runFn (C88 NN [(120, R120)] []) Try.f88⟩
noncomputable def R48 : Entry := ⟨[], runFn (C48 NN [(88, R88)] []) Try.f48⟩
noncomputable def R50 : Entry := ⟨[], runFn (C50 NN [] []) Try.f50⟩
noncomputable def R51 : Entry := ⟨[], extSorted T 91 3⟩
noncomputable def R52 : Entry := ⟨[], runFn (C52 NN [] []) Try.f52⟩
noncomputable def R56 : Entry := ⟨[], runFn (C56 NN [] []) Try.f56⟩
noncomputable def R123 : Entry := ⟨[], runFn (C123 NN [] []) Try.f123⟩
noncomputable def R92 : Entry := ⟨[], runFn (C92 NN [(123, R123)] []) Try.f92⟩
noncomputable def R53 : Entry := ⟨[], runFn (C53 NN [(49, R49), (56, R56), (92, R92)] []) Try.f53⟩
noncomputable def R102 : Entry := ⟨[], runFn (C102 NN [] []) Try.f102⟩
noncomputable def R67 : Entry := ⟨[], runFn (C67 NN [(102, R102)] []) Try.f67⟩
noncomputable def R75 : Entry := ⟨[], runFn (C75 NN [] []) Try.f75⟩
noncomputable def R93 : Entry := ⟨[], runFn (C93 NN [(67, R67), (75, R75)] []) Try.f93⟩
noncomputable def R55 : Entry := ⟨[], runFn (C55 NN [(93, R93)] []) Try.f55⟩
noncomputable def R54 : Entry := ⟨[], runFn (C54 NN [(49, R49), (55, R55)] []) Try.f54⟩
noncomputable def R13 : Entry := ⟨[3], runFn (C13 NN [(48, R48), (49, R49), (50, R50), (51, R51), (52, R52), (53, R53), (54, R54)] []) Try.f13⟩
noncomputable def R14 : Entry := ⟨[], runFn (C14 NN [(48, R48), (50, R50)] []) Try.f14⟩
noncomputable def R20 : Entry := ⟨[], runFn (C20 NN [(49, R49), (56, R56)] []) Try.f20⟩
noncomputable def R11 : Entry := ⟨[], runFn (C11 NN [(12, R12), (13, R13), (14, R14), (16, R16), (20, R20)] []) Try.f11⟩
noncomputable def R15 : Entry := ⟨[], runFn (C15 NN [(48, R48), (55, R55)] []) Try.f15⟩
noncomputable def R25 : Entry := ⟨[], runFn (C25 NN [] []) Try.f25⟩
noncomputable def R84 : Entry := ⟨[], runFn (C84 NN [] []) Try.f84⟩
noncomputable def R42 : Entry := ⟨[], runFn (C42 NN [(84, R84)] []) Try.f42⟩
noncomputable def R43 : Entry := ⟨[], runFn (C43 NN [] []) Try.f43⟩
noncomputable def R85 : Entry := ⟨[], runFn (C85 NN [] []) Try.f85⟩
noncomputable def R119 : Entry := ⟨[], runFn (C119 NN [] []) Try.f119⟩
noncomputable def R86 : Entry := ⟨[], runFn (C86 NN [(84, R84), (119, R119)] []) Try.f86⟩
noncomputable def R23 : Entry := ⟨[], runFn (C23 NN [] []) Try.f23⟩
noncomputable def R87 : Entry := ⟨[], runFn (C87 NN [(23, R23)] []) Try.f87⟩
noncomputable def R44 : Entry := ⟨[], runFn (C44 NN [(85, R85), (86, R86), (87, R87)] []) Try.f44⟩
noncomputable def R45 : Entry := ⟨[], runFn (C45 NN [(85, R85)] []) Try.f45⟩
noncomputable def R46 : Entry := ⟨[], runFn (C46 NN [(23, R23)] []) Try.f46⟩
noncomputable def R17 : Entry := ⟨[], runFn (C17 NN [] []) Try.f17⟩
noncomputable def R19 : Entry := ⟨[], runFn (C19 NN [] []) Try.f19⟩
noncomputable def R47 : Entry := ⟨[], runFn (C47 NN [(12, R12), (16, R16), (17, R17), (18, R18), (19, R19), (25, R25), (43, R43)] []) Try.f47⟩
noncomputable def R10 : Entry := ⟨[], runFn (C10 NN [(11, R11), (13, R13), (14, R14), (15, R15), (20, R20), (25, R25), (42, R42), (43, R43), (44, R44), (45, R45), (46, R46), (47, R47)] []) Try.f10⟩
noncomputable def R3 : Entry := ⟨[], runFn (C3 NN [(10, R10)] []) Try.f3⟩
end Go.Proofs.Ytcafnbjmebichaa
