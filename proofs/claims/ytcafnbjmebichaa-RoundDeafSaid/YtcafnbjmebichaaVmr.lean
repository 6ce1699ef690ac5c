/- For each function its walk, over the functions and loops that are told by what they do. No conditions. -/
import Derived.Test.YtcafnbjmebichaaVmf
open Go.VM
namespace Go.Proofs.Ytcafnbjmebichaa

noncomputable def R16 : Entry := ⟨[], runFn (C16 NN [] []) Try.f16⟩
noncomputable def R49 : Entry := ⟨[], extClone T 3⟩
noncomputable def R18 : Entry := ⟨[], runFn (C18 NN [(49, R49)] []) Try.f18⟩
noncomputable def R12 : Entry := ⟨[], runFn (C12 NN [(16, R16), (18, R18)] []) Try.f12⟩
noncomputable def R120 : Entry := ⟨[], runFn (C120 NN [] []) Try.f120⟩
noncomputable def R88 : Entry := ⟨[], runFn (C88 NN [(120, R120)] []) Try.f88⟩
noncomputable def R48 : Entry := ⟨[], runFn (C48 NN [(88, R88)] []) Try.f48⟩
noncomputable def R50 : Entry := ⟨[], runFn (C50 NN [] []) Try.f50⟩
noncomputable def R51 : Entry := ⟨[], extSorted T 91 3⟩
noncomputable def R52 : Entry := ⟨[], runFn (C52 NN [] []) Try.f52⟩
noncomputable def R56 : Entry := ⟨[], runFn (C56 NN [] []) Try.f56⟩
noncomputable def R123 : Entry := ⟨[], runFn (C123 NN [] []) Try.f123⟩
noncomputable def R92 : Entry := ⟨[], runFn (C92 NN [(123, R123)] []) Try.f92⟩
noncomputable def R53 : Entry := ⟨[], runFn (C53 NN [(49, R49), (56, R56), (92, R92)] []) Try.f53⟩
noncomputable def R102 : Entry := ⟨[], runFn (C102 NN [] []) Try.f102⟩
noncomputable def R67 : Entry := ⟨[], runFn (C67 NN [(102, R102)] []) Try.f67⟩
noncomputable def R75 : Entry := ⟨[], runFn (C75 NN [] []) Try.f75⟩
noncomputable def R93 : Entry := ⟨[], runFn (C93 NN [(67, R67), (75, R75)] []) Try.f93⟩
noncomputable def R55 : Entry := ⟨[], runFn (C55 NN [(93, R93)] []) Try.f55⟩
noncomputable def R54 : Entry := ⟨[], runFn (C54 NN [(49, R49), (55, R55)] []) Try.f54⟩
noncomputable def R13 : Entry := ⟨[], runFn (C13 NN [(48, R48), (49, R49), (50, R50), (51, R51), (52, R52), (53, R53), (54, R54)] []) Try.f13⟩
noncomputable def R14 : Entry := ⟨[], runFn (C14 NN [(48, R48), (50, R50)] []) Try.f14⟩
noncomputable def R20 : Entry := ⟨[], runFn (C20 NN [(49, R49), (56, R56)] []) Try.f20⟩
noncomputable def R11 : Entry := ⟨[], runFn (C11 NN [(12, R12), (13, R13), (14, R14), (16, R16), (20, R20)] []) Try.f11⟩
noncomputable def R15 : Entry := ⟨[], runFn (C15 NN [(48, R48), (55, R55)] []) Try.f15⟩
noncomputable def R17 : Entry := ⟨[], runFn (C17 NN [] []) Try.f17⟩
noncomputable def R19 : Entry := ⟨[], runFn (C19 NN [] []) Try.f19⟩
noncomputable def R4 : Entry := ⟨[], runFn (C4 NN [(11, R11), (12, R12), (13, R13), (14, R14), (15, R15), (16, R16), (17, R17), (18, R18), (19, R19)] []) Try.f4⟩
noncomputable def R5 : Entry := ⟨[], runFn (C5 NN [(11, R11), (13, R13), (14, R14), (15, R15), (16, R16), (17, R17), (18, R18), (19, R19), (20, R20)] []) Try.f5⟩
end Go.Proofs.Ytcafnbjmebichaa
