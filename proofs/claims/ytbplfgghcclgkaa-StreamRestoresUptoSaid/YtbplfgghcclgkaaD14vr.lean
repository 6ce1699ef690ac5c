/- For each function its walk, over the functions and loops that are told by what they do. No conditions. -/
import Derived.Test.YtbplfgghcclgkaaD14sp
open Go Go.VM
namespace Go.Proofs.Ytbplfgghcclgkaa
noncomputable def DCL23 : Ctx := { C23 NN [] [] with out := [], ret := some [2], joins := [] }
noncomputable def DR23 : Entry := ⟨[], runFn DCL23 Try.f23⟩
noncomputable def DCL28 : Ctx := { C28 NN [] [(0, loopE 0 Ll28_0_0 Lg28_0_0 Lr28_0_0)] with out := [(0, [3]), (1, [3, 10, 11, 12])], ret := some [2], joins := [] }
noncomputable def DB28 : Entry := ⟨[], runFn DCL28 Try.f28⟩
noncomputable def DS28 : Entry := (entryE [] Sl28_0 Sg28_0 Sr28_0 DB28)
noncomputable def DCL68 : Ctx := { C68 NN [] [(0, loopE 0 Ll68_0_0 Lg68_0_0 Lr68_0_0)] with out := [(0, [3]), (1, [0, 3, 4])], ret := some [2], joins := [] }
noncomputable def DB68 : Entry := ⟨[], runFn DCL68 Try.f68⟩
noncomputable def DS68 : Entry := (entryE [] Sl68_0 Sg68_0 Sr68_0 DB68)
noncomputable def DCL70 : Ctx := { C70 NN [] [] with out := [], ret := some [2], joins := [] }
noncomputable def DR70 : Entry := ⟨[], runFn DCL70 Try.f70⟩
noncomputable def DCL71 : Ctx := { C71 NN [] [] with out := [], ret := some [0], joins := [] }
noncomputable def DR71 : Entry := ⟨[], runFn DCL71 Try.f71⟩
noncomputable def DCL29 : Ctx := { C29 NN [(68, DS68), (69, R69), (70, DR70), (71, DR71)] [(0, loopE 0 Ll29_0_0 Lg29_0_0 Lr29_0_0)] with out := [(0, [8]), (1, [8, 50, 51])], ret := some [6, 7], joins := [] }
noncomputable def DB29 : Entry := ⟨[], runFn DCL29 Try.f29⟩
noncomputable def DS29 : Entry := (entryE [] Sl29_0 Sg29_0 Sr29_0 DB29)
noncomputable def DCL32 : Ctx := { C32 NN [(73, R73)] [] with out := [], ret := some [2], joins := [] }
noncomputable def DR32 : Entry := ⟨[], runFn DCL32 Try.f32⟩
noncomputable def DCL34 : Ctx := { C34 NN [] [(0, loopE 0 Ll34_0_0 Lg34_0_0 Lr34_0_0)] with out := [(0, []), (1, [0, 1, 12, 13])], ret := some [4], joins := [] }
noncomputable def DB34 : Entry := ⟨[], runFn DCL34 Try.f34⟩
noncomputable def DS34 : Entry := (entryE [] Sl34_0 Sg34_0 Sr34_0 DB34)
noncomputable def DCL37 : Ctx := { C37 NN [] [] with out := [], ret := some [2], joins := [] }
noncomputable def DR37 : Entry := ⟨[], runFn DCL37 Try.f37⟩
noncomputable def DCL39 : Ctx := { C39 NN [] [] with out := [], ret := some [2, 3, 4], joins := [] }
noncomputable def DR39 : Entry := ⟨[], runFn DCL39 Try.f39⟩
noncomputable def DCL65 : Ctx := { C65 NN [] [] with out := [], ret := some [0], joins := [] }
noncomputable def DR65 : Entry := ⟨[], runFn DCL65 Try.f65⟩
noncomputable def DCL41 : Ctx := { C41 NN [(65, DR65)] [(0, loopE 0 Ll41_0_0 Lg41_0_0 Lr41_0_0), (2, loopE 0 Ll41_2_0 Lg41_2_0 Lr41_2_0)] with out := [(0, [9]), (1, [0, 1, 8, 9, 10]), (2, [0, 1, 8, 9, 10]), (3, [0, 1, 8, 9, 10, 11])], ret := some [6, 7], joins := [] }
noncomputable def DB41 : Entry := ⟨[], runFn DCL41 Try.f41⟩
noncomputable def DS41 : Entry := (entryE [] Sl41_0 Sg41_0 Sr41_0 DB41)
noncomputable def DCL72 : Ctx := { C72 NN [] [] with out := [], ret := some [4], joins := [] }
noncomputable def DR72 : Entry := ⟨[], runFn DCL72 Try.f72⟩
noncomputable def DCL30 : Ctx := { C30 NN [(72, DR72)] [] with out := [(0, [0, 1, 2, 3, 8])], ret := some [8, 9], joins := [] }
noncomputable def DR30 : Entry := ⟨[], runFn DCL30 Try.f30⟩
noncomputable def DCL31 : Ctx := { C31 NN [(72, DR72)] [] with out := [(0, [0])], ret := some [4], joins := [] }
noncomputable def DR31 : Entry := ⟨[], runFn DCL31 Try.f31⟩
noncomputable def DCL80 : Ctx := { C80 NN [] [] with out := [], ret := some [3], joins := [] }
noncomputable def DR80 : Entry := ⟨[], runFn DCL80 Try.f80⟩
noncomputable def DCL101 : Ctx := { C101 NN [] [] with out := [], ret := some [2], joins := [] }
noncomputable def DR101 : Entry := ⟨[], runFn DCL101 Try.f101⟩
noncomputable def DCL111 : Ctx := { C111 NN [(75, S75), (80, DR80), (101, DR101)] [(0, loopO (loopE 5 Ll111_0_0 Lg111_0_0 Lr111_0_0) (loopE 1 Ll111_0_1 Lg111_0_1 Lr111_0_1))] with out := [(0, []), (1, [0, 1, 7, 8])], ret := some [4], joins := [] }
noncomputable def DB111 : Entry := ⟨[], runFn DCL111 Try.f111⟩
noncomputable def DS111 : Entry := (entryE [] Sl111_0 Sg111_0 Sr111_0 (entryE [] Sl111_1 Sg111_1 Sr111_1 DB111))
noncomputable def DCL74 : Ctx := { C74 NN [(75, S75), (80, DR80), (101, DR101), (111, DS111)] [(0, loopO (loopE 5 Ll74_0_0 Lg74_0_0 Lr74_0_0) (loopE 2 Ll74_0_1 Lg74_0_1 Lr74_0_1))] with out := [(0, [0, 5]), (1, [0, 1, 5, 6])], ret := some [4], joins := [] }
noncomputable def DB74 : Entry := ⟨[0], runFn DCL74 Try.f74⟩
noncomputable def DS74 : Entry := (entryE [0] Sl74_0 Sg74_0 Sr74_0 (entryE [0] Sl74_1 Sg74_1 Sr74_1 DB74))
noncomputable def DCL33 : Ctx := { C33 NN [(61, S61), (70, DR70), (74, DS74)] [(0, loopE 4 Ll33_0_0 Lg33_0_0 Lr33_0_0)] with out := [(0, [2]), (1, [2, 22, 23, 24])], ret := some [4, 5], joins := [] }
noncomputable def DB33 : Entry := ⟨[], runFn DCL33 Try.f33⟩
noncomputable def DS33 : Entry := (entryE [] Sl33_0 Sg33_0 Sr33_0 DB33)
noncomputable def DCL38 : Ctx := { C38 NN [(72, DR72)] [] with out := [(0, [0, 1, 4])], ret := some [4, 5], joins := [] }
noncomputable def DR38 : Entry := ⟨[], runFn DCL38 Try.f38⟩
noncomputable def DCL114 : Ctx := { C114 NN [] [] with out := [], ret := some [4], joins := [] }
noncomputable def DR114 : Entry := ⟨[], runFn DCL114 Try.f114⟩
noncomputable def DCL113 : Ctx := { C113 NN [(114, DR114)] [(0, loopE 0 Ll113_0_0 Lg113_0_0 Lr113_0_0)] with out := [(0, [0, 2, 4, 8, 9, 40, 41, 42, 43, 44, 45, 46, 47]), (1, [0, 2, 4, 8, 9, 10, 40, 41, 42, 43, 44, 45, 46, 47])], ret := some [6, 7], joins := [] }
noncomputable def DB113 : Entry := ⟨[], runFn DCL113 Try.f113⟩
noncomputable def DS113 : Entry := (entryE [] Sl113_0 Sg113_0 Sr113_0 DB113)
noncomputable def DCL79 : Ctx := { C79 NN [(73, R73), (113, DS113), (115, R115)] [] with out := [], ret := some [2], joins := [] }
noncomputable def DB79 : Entry := ⟨[], runFn DCL79 Try.f79⟩
noncomputable def DS79 : Entry := (entryE [] Sl79_0 Sg79_0 Sr79_0 DB79)
noncomputable def DCL40 : Ctx := { C40 NN [(74, DS74), (79, DS79)] [] with out := [(0, [2, 8])], ret := some [6, 7], joins := [] }
noncomputable def DB40 : Entry := ⟨[], runFn DCL40 Try.f40⟩
noncomputable def DS40 : Entry := (entryE [] Sl40_0 Sg40_0 Sr40_0 DB40)
noncomputable def DCL48 : Ctx := { C48 NN [] [(0, loopE 0 Ll48_0_0 Lg48_0_0 Lr48_0_0)] with out := [(0, []), (1, [0, 1, 12, 13])], ret := some [4], joins := [] }
noncomputable def DB48 : Entry := ⟨[], runFn DCL48 Try.f48⟩
noncomputable def DS48 : Entry := (entryE [] Sl48_0 Sg48_0 Sr48_0 DB48)
noncomputable def DCL88 : Ctx := { C88 NN [] [(0, loopE 5 Ll88_0_0 Lg88_0_0 Lr88_0_0)] with out := [(0, [3]), (1, [0, 3, 4, 24, 25, 26, 27, 28, 29, 30, 31])], ret := some [2], joins := [] }
noncomputable def DB88 : Entry := ⟨[], runFn DCL88 Try.f88⟩
noncomputable def DS88 : Entry := (entryE [] Sl88_0 Sg88_0 Sr88_0 DB88)
noncomputable def DCL87 : Ctx := { C87 NN [] [(0, loopE 5 Ll87_0_0 Lg87_0_0 Lr87_0_0)] with out := [(0, [2]), (1, [0, 2, 4])], ret := some [2, 3], joins := [] }
noncomputable def DB87 : Entry := ⟨[], runFn DCL87 Try.f87⟩
noncomputable def DS87 : Entry := (entryE [] Sl87_0 Sg87_0 Sr87_0 DB87)
noncomputable def DCL116 : Ctx := { C116 NN [(87, DS87)] [] with out := [], ret := some [4], joins := [] }
noncomputable def DB116 : Entry := ⟨[], runFn DCL116 Try.f116⟩
noncomputable def DS116 : Entry := (entryE [] Sl116_0 Sg116_0 Sr116_0 DB116)
noncomputable def DCL82 : Ctx := { C82 NN [(88, DS88), (116, DS116)] [] with out := [], ret := some [8, 9], joins := [] }
noncomputable def DB82 : Entry := ⟨[], runFn DCL82 Try.f82⟩
noncomputable def DS82 : Entry := (entryE [] Sl82_0 Sg82_0 Sr82_0 DB82)
noncomputable def DCL83 : Ctx := { C83 NN [(116, DS116)] [] with out := [], ret := some [4, 5], joins := [] }
noncomputable def DB83 : Entry := ⟨[], runFn DCL83 Try.f83⟩
noncomputable def DS83 : Entry := (entryE [] Sl83_0 Sg83_0 Sr83_0 DB83)
noncomputable def DCL84 : Ctx := { C84 NN [(116, DS116)] [] with out := [], ret := some [4], joins := [] }
noncomputable def DB84 : Entry := ⟨[], runFn DCL84 Try.f84⟩
noncomputable def DS84 : Entry := (entryE [] Sl84_0 Sg84_0 Sr84_0 DB84)
noncomputable def DCL36 : Ctx := { C36 NN [] [] with out := [], ret := some [4], joins := [] }
noncomputable def DR36 : Entry := ⟨[], runFn DCL36 Try.f36⟩
noncomputable def DCL77 : Ctx := { C77 NN [] [] with out := [], ret := some [4], joins := [] }
noncomputable def DR77 : Entry := ⟨[], runFn DCL77 Try.f77⟩
noncomputable def DCL78 : Ctx := { C78 NN [] [] with out := [], ret := some [4], joins := [] }
noncomputable def DR78 : Entry := ⟨[], runFn DCL78 Try.f78⟩
noncomputable def DCL35 : Ctx := { C35 NN [(77, DR77), (78, DR78)] [(0, loopE 0 Ll35_0_0 Lg35_0_0 Lr35_0_0)] with out := [(0, [7]), (1, [1, 2, 3, 7, 8])], ret := some [6], joins := [] }
noncomputable def DB35 : Entry := ⟨[], runFn DCL35 Try.f35⟩
noncomputable def DS35 : Entry := (entryE [] Sl35_0 Sg35_0 Sr35_0 DB35)
noncomputable def DCL117 : Ctx := { C117 NN [(35, DS35), (36, DR36)] [(0, loopE 0 Ll117_0_0 Lg117_0_0 Lr117_0_0)] with out := [(0, [9, 10, 61, 62]), (1, [3, 9, 10, 11, 29, 30, 31, 32, 33, 34, 35, 36, 39, 40, 41, 42, 43, 44, 45, 46, 47, 48, 49, 50, 51, 52, 61, 62])], ret := some [8], joins := [] }
noncomputable def DB117 : Entry := ⟨[], runFn DCL117 Try.f117⟩
noncomputable def DS117 : Entry := (entryE [] Sl117_0 Sg117_0 Sr117_0 DB117)
noncomputable def DCL85 : Ctx := { C85 NN [(36, DR36), (117, DS117)] [(0, loopE 5 Ll85_0_0 Lg85_0_0 Lr85_0_0), (2, loopE 5 Ll85_2_0 Lg85_2_0 Lr85_2_0)] with out := [(0, [0, 64, 65, 66, 67, 68, 69, 70, 71, 74, 75, 76, 77, 78, 79, 80, 81, 82, 83, 84, 85, 86, 87, 88, 89, 90, 91, 92, 93]), (1, [0, 1, 6, 64, 65, 66, 67, 68, 69, 70, 71, 74, 75, 76, 77, 78, 79, 80, 81, 82, 83, 84, 85, 86, 87, 88, 89, 90, 91, 92, 93]), (2, [7]), (3, [0, 7, 8, 64, 65, 66, 67, 68, 69, 70, 71, 74, 75, 76, 77, 78, 79, 80, 81, 82, 83, 84, 85, 86, 87, 88, 89, 90, 91, 92, 93])], ret := some [4, 5], joins := [] }
noncomputable def DB85 : Entry := ⟨[], runFn DCL85 Try.f85⟩
noncomputable def DS85 : Entry := (entryE [] Sl85_0 Sg85_0 Sr85_0 DB85)
noncomputable def DCL86 : Ctx := { C86 NN [(87, DS87)] [(0, loopE 5 Ll86_0_0 Lg86_0_0 Lr86_0_0)] with out := [(0, [0, 1, 2, 10, 73, 74, 75, 76]), (1, [0, 1, 2, 8, 10, 11, 39, 40, 41, 42, 43, 44, 45, 46, 47, 48, 49, 50, 51, 52, 53, 54, 55, 56, 57, 58, 59, 60, 61, 62, 63, 73, 74, 75, 76])], ret := some [6, 7], joins := [] }
noncomputable def DB86 : Entry := ⟨[], runFn DCL86 Try.f86⟩
noncomputable def DS86 : Entry := (entryE [] Sl86_0 Sg86_0 Sr86_0 DB86)
noncomputable def DCL43 : Ctx := { C43 NN [(23, DR23), (30, DR30), (31, DR31), (33, DS33), (34, DS34), (38, DR38), (40, DS40), (48, DS48), (82, DS82), (83, DS83), (84, DS84), (85, DS85), (86, DS86)] [(1, loopE 9 Ll43_1_0 Lg43_1_0 Lr43_1_0)] with out := [(0, [0, 1, 5, 172, 173, 174]), (1, [17]), (2, [12, 17, 140, 141])], ret := some [6], joins := [(6, ([0, 1, 5, 7, 8, 9, 71, 72, 73, 74, 75, 80, 81, 82, 83, 84, 85, 86, 87, 88, 89], [0, 1, 5, 172, 173, 174]), loopE 9 Kl43_6_0 Kg43_6_0 Kr43_6_0), (7, ([0, 1, 5, 7, 8, 9, 10, 11, 71, 72, 73, 74, 75, 80, 81, 82, 83, 84, 85, 86, 87, 88, 89], [0, 1, 5, 172, 173, 174]), loopE 9 Kl43_7_0 Kg43_7_0 Kr43_7_0), (10, ([0, 1, 7, 8, 9, 10, 11, 71, 72, 73, 74, 75, 80, 81, 82, 83, 84, 85, 86, 87, 88, 89], [0, 1, 5, 172, 173, 174]), loopE 9 Kl43_10_0 Kg43_10_0 Kr43_10_0), (12, ([0, 1, 8, 10, 11, 80, 81, 82, 83, 84, 85, 86, 87, 88, 89], [0, 1, 5, 172, 173, 174]), loopE 9 Kl43_12_0 Kg43_12_0 Kr43_12_0), (18, ([1, 5, 7, 12, 13, 14, 127, 128, 129, 130, 131, 134, 135, 136, 137], [0, 1, 5, 172, 173, 174]), loopE 9 Kl43_18_0 Kg43_18_0 Kr43_18_0), (19, ([5, 7, 12, 13, 14, 15, 16, 127, 128, 129, 130, 131, 134, 135, 136, 137], [0, 1, 5, 172, 173, 174]), loopE 9 Kl43_19_0 Kg43_19_0 Kr43_19_0)] }
noncomputable def DB43 : Entry := ⟨[], runFn DCL43 Try.f43⟩
noncomputable def DS43 : Entry := (entryE [] Sl43_0 Sg43_0 Sr43_0 DB43)
noncomputable def DCL45 : Ctx := { C45 NN [(81, R81)] [] with out := [], ret := some [2], joins := [] }
noncomputable def DR45 : Entry := ⟨[], runFn DCL45 Try.f45⟩
noncomputable def DCL44 : Ctx := { C44 NN [(32, DR32), (34, DS34), (37, DR37), (39, DR39), (45, DR45), (48, DS48), (87, DS87), (88, DS88)] [(0, loopE 9 Ll44_0_0 Lg44_0_0 Lr44_0_0)] with out := [(0, []), (1, [10, 67, 68])], ret := some [4], joins := [] }
noncomputable def DB44 : Entry := ⟨[], runFn DCL44 Try.f44⟩
noncomputable def DS44 : Entry := (entryE [] Sl44_0 Sg44_0 Sr44_0 DB44)
noncomputable def DCL46 : Ctx := { C46 NN [(70, DR70), (73, R73), (81, R81)] [(0, loopE 4 Ll46_0_0 Lg46_0_0 Lr46_0_0)] with out := [(0, [0, 1, 3, 4, 7]), (1, [0, 1, 3, 4, 7, 12, 13, 66, 67, 68, 76, 77, 78, 79, 82, 83, 84, 85, 88, 89, 90, 91, 92, 95, 96, 97, 98, 99, 100, 101, 102, 103, 104, 105, 106, 107, 108, 109, 110])], ret := some [10, 11], joins := [] }
noncomputable def DB46 : Entry := ⟨[], runFn DCL46 Try.f46⟩
noncomputable def DS46 : Entry := (entryE [] Sl46_0 Sg46_0 Sr46_0 DB46)
noncomputable def DCL47 : Ctx := { C47 NN [] [(0, loopE 5 Ll47_0_0 Lg47_0_0 Lr47_0_0)] with out := [(0, [7, 14, 15]), (1, [1, 3, 7, 12, 13, 14, 15, 16, 95, 96, 97, 98, 99, 115, 116, 117, 120, 121, 122, 123, 126, 127, 128, 129, 130, 131, 132, 133, 134, 135, 136, 137, 138, 141, 142, 143, 144, 145, 146, 147, 148, 149, 150, 151, 152, 153, 154, 155, 156, 157, 158, 159, 160, 161, 162, 163])], ret := some [10, 11], joins := [] }
noncomputable def DB47 : Entry := ⟨[], runFn DCL47 Try.f47⟩
noncomputable def DS47 : Entry := (entryE [] Sl47_0 Sg47_0 Sr47_0 DB47)
noncomputable def DCL14 : Ctx := { C14 NN [(23, DR23), (27, R27), (28, DS28), (29, DS29), (32, DR32), (34, DS34), (37, DR37), (39, DR39), (41, DS41), (43, DS43), (44, DS44), (45, DR45), (46, DS46), (47, DS47), (48, DS48)] [(0, loopE 0 Ll14_0_0 Lg14_0_0 Lr14_0_0), (2, loopE 0 Ll14_2_0 Lg14_2_0 Lr14_2_0)] with out := [(0, [1, 5, 7, 185, 186, 200, 201, 202, 203]), (1, [1, 5, 7, 147, 148, 149, 185, 186, 200, 201, 202, 203]), (2, []), (3, [7, 11, 188, 189, 190, 200, 201, 202, 203])], ret := some [4], joins := [] }
noncomputable def DB14 : Entry := ⟨[], runFn DCL14 Try.f14⟩
end Go.Proofs.Ytbplfgghcclgkaa
