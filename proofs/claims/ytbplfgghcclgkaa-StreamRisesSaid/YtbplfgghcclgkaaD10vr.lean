/- For each function its walk, over the functions and loops that are told by what they do. No conditions. -/
import Derived.Test.YtbplfgghcclgkaaD10sp
open Go Go.VM
namespace Go.Proofs.Ytbplfgghcclgkaa
noncomputable def DCL28 : Ctx := { C28 NN [] [(0, loopE 0 Ll28_0_0 Lg28_0_0 Lr28_0_0)] with out := [(0, [3]), (1, [3, 10, 11, 12])], ret := some [2], joins := [] }
noncomputable def DB28 : Entry := ⟨[], runFn DCL28 Try.f28⟩
noncomputable def DS28 : Entry := (entryE [] Sl28_0 Sg28_0 Sr28_0 DB28)
noncomputable def DCL68 : Ctx := { C68 NN [] [(0, loopE 0 Ll68_0_0 Lg68_0_0 Lr68_0_0)] with out := [(0, [3]), (1, [0, 3, 4])], ret := some [2], joins := [] }
noncomputable def DB68 : Entry := ⟨[], runFn DCL68 Try.f68⟩
noncomputable def DS68 : Entry := (entryE [] Sl68_0 Sg68_0 Sr68_0 DB68)
noncomputable def DCL70 : Ctx := { C70 NN [] [] with out := [], ret := some [2], joins := [] }
noncomputable def DR70 : Entry := ⟨[], runFn DCL70 Try.f70⟩
noncomputable def DCL71 : Ctx := { C71 NN [] [] with out := [], ret := some [0], joins := [] }
noncomputable def DR71 : Entry := ⟨[], runFn DCL71 Try.f71⟩
noncomputable def DCL29 : Ctx := { C29 NN [(68, DS68), (69, R69), (70, DR70), (71, DR71)] [(0, loopE 0 Ll29_0_0 Lg29_0_0 Lr29_0_0)] with out := [(0, [8]), (1, [8, 50, 51])], ret := some [6, 7], joins := [] }
noncomputable def DB29 : Entry := ⟨[], runFn DCL29 Try.f29⟩
noncomputable def DS29 : Entry := (entryE [] Sl29_0 Sg29_0 Sr29_0 DB29)
noncomputable def DCL72 : Ctx := { C72 NN [] [] with out := [], ret := some [4], joins := [] }
noncomputable def DR72 : Entry := ⟨[], runFn DCL72 Try.f72⟩
noncomputable def DCL30 : Ctx := { C30 NN [(72, DR72)] [] with out := [(0, [0, 1, 2, 3, 8])], ret := some [8, 9], joins := [] }
noncomputable def DR30 : Entry := ⟨[], runFn DCL30 Try.f30⟩
noncomputable def DCL31 : Ctx := { C31 NN [(72, DR72)] [] with out := [(0, [0])], ret := some [4], joins := [] }
noncomputable def DR31 : Entry := ⟨[], runFn DCL31 Try.f31⟩
noncomputable def DCL32 : Ctx := { C32 NN [(73, R73)] [] with out := [], ret := some [2], joins := [] }
noncomputable def DR32 : Entry := ⟨[], runFn DCL32 Try.f32⟩
noncomputable def DCL80 : Ctx := { C80 NN [] [] with out := [], ret := some [3], joins := [] }
noncomputable def DR80 : Entry := ⟨[], runFn DCL80 Try.f80⟩
noncomputable def DCL101 : Ctx := { C101 NN [] [] with out := [], ret := some [2], joins := [] }
noncomputable def DR101 : Entry := ⟨[], runFn DCL101 Try.f101⟩
noncomputable def DCL111 : Ctx := { C111 NN [(75, S75), (80, DR80), (101, DR101)] [(0, loopE 5 Ll111_0_0 Lg111_0_0 Lr111_0_0)] with out := [(0, []), (1, [0, 1, 7, 8])], ret := some [4], joins := [] }
noncomputable def DB111 : Entry := ⟨[], runFn DCL111 Try.f111⟩
noncomputable def DS111 : Entry := (entryE [] Sl111_0 Sg111_0 Sr111_0 DB111)
noncomputable def DCL74 : Ctx := { C74 NN [(75, S75), (80, DR80), (101, DR101), (111, DS111)] [(0, loopE 5 Ll74_0_0 Lg74_0_0 Lr74_0_0)] with out := [(0, [0, 5]), (1, [0, 1, 5, 6])], ret := some [4], joins := [] }
noncomputable def DB74 : Entry := ⟨[0], runFn DCL74 Try.f74⟩
noncomputable def DS74 : Entry := (entryE [0] Sl74_0 Sg74_0 Sr74_0 DB74)
noncomputable def DCL33 : Ctx := { C33 NN [(61, S61), (70, DR70), (74, DS74)] [(0, loopE 4 Ll33_0_0 Lg33_0_0 Lr33_0_0)] with out := [(0, [2]), (1, [2, 22, 23, 24])], ret := some [4, 5], joins := [] }
noncomputable def DB33 : Entry := ⟨[], runFn DCL33 Try.f33⟩
noncomputable def DS33 : Entry := (entryE [] Sl33_0 Sg33_0 Sr33_0 DB33)
noncomputable def DCL37 : Ctx := { C37 NN [] [] with out := [], ret := some [2], joins := [] }
noncomputable def DR37 : Entry := ⟨[], runFn DCL37 Try.f37⟩
noncomputable def DCL38 : Ctx := { C38 NN [(72, DR72)] [] with out := [(0, [0, 1, 4])], ret := some [4, 5], joins := [] }
noncomputable def DR38 : Entry := ⟨[], runFn DCL38 Try.f38⟩
noncomputable def DCL39 : Ctx := { C39 NN [] [] with out := [], ret := some [2, 3, 4], joins := [] }
noncomputable def DR39 : Entry := ⟨[], runFn DCL39 Try.f39⟩
noncomputable def DCL10 : Ctx := { C10 NN [(27, R27), (28, DS28), (29, DS29), (30, DR30), (31, DR31), (32, DR32), (33, DS33), (37, DR37), (38, DR38), (39, DR39)] [(0, loopE 0 Ll10_0_0 Lg10_0_0 Lr10_0_0)] with out := [(0, [1, 3]), (1, [1, 3, 5, 6, 35, 36, 37, 62, 63, 64, 65, 68, 69, 70, 73, 74, 75, 76, 77, 78, 79, 80, 81, 82, 83, 84, 85, 101, 102, 103, 104, 124, 125, 126, 127, 130, 131, 132, 133, 134, 137, 138, 139, 140, 141, 158, 159, 160, 161, 162, 163]), (2, [1, 3, 5, 6, 8, 9, 10, 11, 35, 36, 37, 62, 63, 64, 65, 68, 69, 70, 73, 74, 75, 76, 77, 78, 79, 80, 81, 82, 83, 84, 85, 101, 102, 103, 104, 124, 125, 126, 127, 130, 131, 132, 133, 134, 137, 138, 139, 140, 141, 158, 159, 160, 161, 162, 163])], ret := some [2], joins := [(25, ([1, 3, 5, 6, 8, 9, 10, 11, 35, 36, 37, 62, 63, 64, 65, 68, 69, 70, 73, 74, 75, 76, 77, 78, 79, 80, 81, 82, 83, 84, 85, 101, 102, 103, 104, 124, 125, 126, 127, 130, 131, 132, 133, 134, 137, 138, 139, 140, 141, 158, 159, 160, 161, 162, 163], [1, 3, 5, 6, 35, 36, 37, 62, 63, 64, 65, 68, 69, 70, 73, 74, 75, 76, 77, 78, 79, 80, 81, 82, 83, 84, 85, 101, 102, 103, 104, 124, 125, 126, 127, 130, 131, 132, 133, 134, 137, 138, 139, 140, 141, 158, 159, 160, 161, 162, 163]), loopE 0 Kl10_25_0 Kg10_25_0 Kr10_25_0), (28, ([1, 3, 5, 6, 8, 9, 10, 35, 36, 37, 62, 63, 64, 65, 68, 69, 70, 73, 74, 75, 76, 77, 78, 79, 80, 81, 82, 83, 84, 85, 101, 102, 103, 104, 124, 125, 126, 127, 130, 131, 132, 133, 134, 137, 138, 139, 140, 141, 158, 159, 160, 161, 162, 163], [1, 3, 5, 6, 35, 36, 37, 62, 63, 64, 65, 68, 69, 70, 73, 74, 75, 76, 77, 78, 79, 80, 81, 82, 83, 84, 85, 101, 102, 103, 104, 124, 125, 126, 127, 130, 131, 132, 133, 134, 137, 138, 139, 140, 141, 158, 159, 160, 161, 162, 163]), loopE 0 Kl10_28_0 Kg10_28_0 Kr10_28_0), (30, ([1, 3, 5, 6, 8, 35, 36, 37, 62, 63, 64, 65, 68, 69, 70, 73, 74, 75, 76, 77, 78, 79, 80, 81, 82, 83, 84, 85, 101, 102, 103, 104, 124, 125, 126, 127, 130, 131, 132, 133, 134, 137, 138, 139, 140, 141, 158, 159, 160, 161, 162, 163], [1, 3, 5, 6, 35, 36, 37, 62, 63, 64, 65, 68, 69, 70, 73, 74, 75, 76, 77, 78, 79, 80, 81, 82, 83, 84, 85, 101, 102, 103, 104, 124, 125, 126, 127, 130, 131, 132, 133, 134, 137, 138, 139, 140, 141, 158, 159, 160, 161, 162, 163]), loopE 0 Kl10_30_0 Kg10_30_0 Kr10_30_0), (32, ([1, 3, 5, 6, 35, 36, 37, 62, 63, 64, 65, 68, 69, 70, 73, 74, 75, 76, 77, 78, 79, 80, 81, 82, 83, 84, 85, 101, 102, 103, 104, 124, 125, 126, 127, 130, 131, 132, 133, 134, 137, 138, 139, 140, 141, 158, 159, 160, 161, 162, 163], [1, 3, 5, 6, 35, 36, 37, 62, 63, 64, 65, 68, 69, 70, 73, 74, 75, 76, 77, 78, 79, 80, 81, 82, 83, 84, 85, 101, 102, 103, 104, 124, 125, 126, 127, 130, 131, 132, 133, 134, 137, 138, 139, 140, 141, 158, 159, 160, 161, 162, 163]), loopE 0 Kl10_32_0 Kg10_32_0 Kr10_32_0)] }
noncomputable def DB10 : Entry := ⟨[], runFn DCL10 Try.f10⟩
noncomputable def DS10 : Entry := (entryE [] Sl10_0 Sg10_0 Sr10_0 DB10)
end Go.Proofs.Ytbplfgghcclgkaa
