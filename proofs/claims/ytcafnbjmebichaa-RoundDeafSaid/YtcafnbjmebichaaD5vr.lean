/- For each function its walk, over the functions and loops that are told by what they do. No conditions. -/
import Derived.Test.YtcafnbjmebichaaD5sp
open Go Go.VM
namespace Go.Proofs.Ytcafnbjmebichaa
noncomputable def DCL56 : Ctx := { C56 NN [] [] with out := [(0, [5])], ret := some [2], joins := [] }
noncomputable def DR56 : Entry := ⟨[], runFn DCL56 Try.f56⟩
noncomputable def DCL20 : Ctx := { C20 NN [(49, R49), (56, DR56)] [] with out := [], ret := some [6, 7], joins := [] }
noncomputable def DR20 : Entry := ⟨[], runFn DCL20 Try.f20⟩
noncomputable def DCL5 : Ctx := { C5 NN [(11, R11), (13, Z13), (14, Z14), (15, Z15), (16, R16), (17, R17), (18, R18), (19, R19), (20, DR20)] [(0, loopE 0 Ll5_0_0 Lg5_0_0 Lr5_0_0)] with out := [(0, [1, 3]), (1, [1, 3, 30, 31, 32, 42, 43, 44, 47, 48, 49, 50, 51, 89, 90, 91, 94, 95, 96, 97, 100, 101, 102, 103]), (2, [1, 3, 7, 30, 31, 32, 42, 43, 44, 47, 48, 49, 50, 51, 89, 90, 91, 94, 95, 96, 97, 100, 101, 102, 103])], ret := some [2], joins := [] }
noncomputable def DB5 : Entry := ⟨[], runFn DCL5 Try.f5⟩
noncomputable def DS5 : Entry := (entryE [] Sl5_0 Sg5_0 Sr5_0 DB5)
end Go.Proofs.Ytcafnbjmebichaa
