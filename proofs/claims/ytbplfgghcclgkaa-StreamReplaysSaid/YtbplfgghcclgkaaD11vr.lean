/- For each function its walk, over the functions and loops that are told by what they do. No conditions. -/
import Derived.Test.YtbplfgghcclgkaaD11sp
open Go Go.VM
namespace Go.Proofs.Ytbplfgghcclgkaa
noncomputable def DCL28 : Ctx := { C28 NN [] [(0, loopE 0 Ll28_0_0 Lg28_0_0 Lr28_0_0)] with out := [(0, [3]), (1, [3, 10, 11, 12])], ret := some [2], joins := [] }
noncomputable def DB28 : Entry := ⟨[], runFn DCL28 Try.f28⟩
noncomputable def DS28 : Entry := (entryE [] Sl28_0 Sg28_0 Sr28_0 DB28)
noncomputable def DCL68 : Ctx := { C68 NN [] [(0, loopE 0 Ll68_0_0 Lg68_0_0 Lr68_0_0)] with out := [(0, [3]), (1, [0, 3, 4])], ret := some [2], joins := [] }
noncomputable def DB68 : Entry := ⟨[], runFn DCL68 Try.f68⟩
noncomputable def DS68 : Entry := (entryE [] Sl68_0 Sg68_0 Sr68_0 DB68)
noncomputable def DCL70 : Ctx := { C70 NN [] [] with out := [], ret := some [2], joins := [] }
noncomputable def DR70 : Entry := ⟨[], runFn DCL70 Try.f70⟩
noncomputable def DCL71 : Ctx := { C71 NN [] [] with out := [], ret := some [0], joins := [] }
noncomputable def DR71 : Entry := ⟨[], runFn DCL71 Try.f71⟩
noncomputable def DCL29 : Ctx := { C29 NN [(68, DS68), (69, R69), (70, DR70), (71, DR71)] [(0, loopE 0 Ll29_0_0 Lg29_0_0 Lr29_0_0)] with out := [(0, [8]), (1, [8, 50, 51])], ret := some [6, 7], joins := [] }
noncomputable def DB29 : Entry := ⟨[], runFn DCL29 Try.f29⟩
noncomputable def DS29 : Entry := (entryE [] Sl29_0 Sg29_0 Sr29_0 DB29)
noncomputable def DCL72 : Ctx := { C72 NN [] [] with out := [], ret := some [4], joins := [] }
noncomputable def DR72 : Entry := ⟨[], runFn DCL72 Try.f72⟩
noncomputable def DCL30 : Ctx := { C30 NN [(72, DR72)] [] with out := [(0, [0, 1, 2, 3, 8])], ret := some [8, 9], joins := [] }
noncomputable def DR30 : Entry := ⟨[], runFn DCL30 Try.f30⟩
noncomputable def DCL31 : Ctx := { C31 NN [(72, DR72)] [] with out := [(0, [0])], ret := some [4], joins := [] }
noncomputable def DR31 : Entry := ⟨[], runFn DCL31 Try.f31⟩
noncomputable def DCL32 : Ctx := { C32 NN [(73, R73)] [] with out := [], ret := some [2], joins := [] }
noncomputable def DR32 : Entry := ⟨[], runFn DCL32 Try.f32⟩
noncomputable def DCL80 : Ctx := { C80 NN [] [] with out := [], ret := some [3], joins := [] }
noncomputable def DR80 : Entry := ⟨[], runFn DCL80 Try.f80⟩
noncomputable def DCL101 : Ctx := { C101 NN [] [] with out := [], ret := some [2], joins := [] }
noncomputable def DR101 : Entry := ⟨[], runFn DCL101 Try.f101⟩
noncomputable def DCL111 : Ctx := { C111 NN [(75, S75), (80, DR80), (101, DR101)] [(0, loopO (loopE 5 Ll111_0_0 Lg111_0_0 Lr111_0_0) (loopE 1 Ll111_0_1 Lg111_0_1 Lr111_0_1))] with out := [(0, []), (1, [0, 1, 7, 8])], ret := some [4], joins := [] }
noncomputable def DB111 : Entry := ⟨[], runFn DCL111 Try.f111⟩
noncomputable def DS111 : Entry := (entryE [] Sl111_0 Sg111_0 Sr111_0 (entryE [] Sl111_1 Sg111_1 Sr111_1 DB111))
noncomputable def DCL74 : Ctx := { C74 NN [(75, S75), (80, DR80), (101, DR101), (111, DS111)] [(0, loopO (loopE 5 Ll74_0_0 Lg74_0_0 Lr74_0_0) (loopE 2 Ll74_0_1 Lg74_0_1 Lr74_0_1))] with out := [(0, [0, 5]), (1, [0, 1, 5, 6])], ret := some [4], joins := [] }
noncomputable def DB74 : Entry := ⟨[0], runFn DCL74 Try.f74⟩
noncomputable def DS74 : Entry := (entryE [0] Sl74_0 Sg74_0 Sr74_0 (entryE [0] Sl74_1 Sg74_1 Sr74_1 DB74))
noncomputable def DCL33 : Ctx := { C33 NN [(61, S61), (70, DR70), (74, DS74)] [(0, loopE 4 Ll33_0_0 Lg33_0_0 Lr33_0_0)] with out := [(0, [2]), (1, [2, 22, 23, 24])], ret := some [4, 5], joins := [] }
noncomputable def DB33 : Entry := ⟨[], runFn DCL33 Try.f33⟩
noncomputable def DS33 : Entry := (entryE [] Sl33_0 Sg33_0 Sr33_0 DB33)
noncomputable def DCL34 : Ctx := { C34 NN [] [(0, loopE 0 Ll34_0_0 Lg34_0_0 Lr34_0_0)] with out := [(0, []), (1, [0, 1, 12, 13])], ret := some [4], joins := [] }
noncomputable def DB34 : Entry := ⟨[], runFn DCL34 Try.f34⟩
noncomputable def DS34 : Entry := (entryE [] Sl34_0 Sg34_0 Sr34_0 DB34)
noncomputable def DCL37 : Ctx := { C37 NN [] [] with out := [], ret := some [2], joins := [] }
noncomputable def DR37 : Entry := ⟨[], runFn DCL37 Try.f37⟩
noncomputable def DCL38 : Ctx := { C38 NN [(72, DR72)] [] with out := [(0, [0, 1, 4])], ret := some [4, 5], joins := [] }
noncomputable def DR38 : Entry := ⟨[], runFn DCL38 Try.f38⟩
noncomputable def DCL39 : Ctx := { C39 NN [] [] with out := [], ret := some [2, 3, 4], joins := [] }
noncomputable def DR39 : Entry := ⟨[], runFn DCL39 Try.f39⟩
noncomputable def DCL114 : Ctx := { C114 NN [] [] with out := [], ret := some [4], joins := [] }
noncomputable def DR114 : Entry := ⟨[], runFn DCL114 Try.f114⟩
noncomputable def DCL113 : Ctx := { C113 NN [(114, DR114)] [(0, loopE 0 Ll113_0_0 Lg113_0_0 Lr113_0_0)] with out := [(0, [0, 2, 4, 8, 9, 40, 41, 42, 43, 44, 45, 46, 47]), (1, [0, 2, 4, 8, 9, 10, 40, 41, 42, 43, 44, 45, 46, 47])], ret := some [6, 7], joins := [] }
noncomputable def DB113 : Entry := ⟨[], runFn DCL113 Try.f113⟩
noncomputable def DS113 : Entry := (entryE [] Sl113_0 Sg113_0 Sr113_0 DB113)
noncomputable def DCL79 : Ctx := { C79 NN [(73, R73), (113, DS113), (115, R115)] [] with out := [], ret := some [2], joins := [] }
noncomputable def DB79 : Entry := ⟨[], runFn DCL79 Try.f79⟩
noncomputable def DS79 : Entry := (entryE [] Sl79_0 Sg79_0 Sr79_0 DB79)
noncomputable def DCL40 : Ctx := { C40 NN [(74, DS74), (79, DS79)] [] with out := [(0, [2, 8])], ret := some [6, 7], joins := [] }
noncomputable def DB40 : Entry := ⟨[], runFn DCL40 Try.f40⟩
noncomputable def DS40 : Entry := (entryE [] Sl40_0 Sg40_0 Sr40_0 DB40)
noncomputable def DCL11 : Ctx := { C11 NN [(27, R27), (28, DS28), (29, DS29), (30, DR30), (31, DR31), (32, DR32), (33, DS33), (34, DS34), (37, DR37), (38, DR38), (39, DR39), (40, DS40)] [(0, loopE 0 Ll11_0_0 Lg11_0_0 Lr11_0_0), (3, loopE 0 Ll11_3_0 Lg11_3_0 Lr11_3_0), (5, loopE 0 Ll11_5_0 Lg11_5_0 Lr11_5_0)] with out := [(0, [1, 5, 97, 98, 99, 100, 116, 117, 118, 121, 122, 123, 124, 152, 153, 154, 155, 156, 157, 158, 159, 160, 168, 169, 170, 171, 174, 175, 176, 177, 187, 188, 189, 190]), (1, [1, 5, 46, 47, 48, 97, 98, 99, 100, 116, 117, 118, 121, 122, 123, 124, 152, 153, 154, 155, 156, 157, 158, 159, 160, 168, 169, 170, 171, 174, 175, 176, 177, 187, 188, 189, 190]), (2, [1, 5, 46, 47, 48, 97, 98, 99, 100, 116, 117, 118, 121, 122, 123, 124, 152, 153, 154, 155, 156, 157, 158, 159, 160, 168, 169, 170, 171, 174, 175, 176, 177, 187, 188, 189, 190]), (3, [5, 13, 14, 152, 153, 154, 155, 156, 157, 158, 159, 160, 168, 169, 170, 171, 174, 175, 176, 177, 187, 188, 189, 190]), (4, [1, 5, 13, 14, 15, 97, 98, 99, 100, 116, 117, 118, 121, 122, 123, 124, 152, 153, 154, 155, 156, 157, 158, 159, 160, 168, 169, 170, 171, 174, 175, 176, 177, 187, 188, 189, 190]), (5, [5, 18, 21, 187, 188, 189, 190]), (6, [5, 13, 18, 19, 20, 21, 142, 143, 144, 152, 153, 154, 155, 156, 157, 158, 159, 160, 168, 169, 170, 171, 174, 175, 176, 177, 187, 188, 189, 190])], ret := some [4], joins := [] }
noncomputable def DB11 : Entry := ⟨[], runFn DCL11 Try.f11⟩
noncomputable def DS11 : Entry := (entryE [] Sl11_0 Sg11_0 Sr11_0 DB11)
end Go.Proofs.Ytbplfgghcclgkaa
