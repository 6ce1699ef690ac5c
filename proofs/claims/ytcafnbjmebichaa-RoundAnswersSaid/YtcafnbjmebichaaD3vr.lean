/- For each function its walk, over the functions and loops that are told by what they do. No conditions. -/
import Derived.Test.YtcafnbjmebichaaD3sp
open Go Go.VM
namespace Go.Proofs.Ytcafnbjmebichaa
noncomputable def DCL120 : Ctx := { C120 NN [] [(0, loopE 0 Ll120_0_0 Lg120_0_0 Lr120_0_0)] with vnil := [40, 174], out := [(0, []), (1, [0, 1, 7, 8])], ret := some [4], joins := [] }
noncomputable def DB120 : Entry := ⟨[], runFn DCL120 Try.f120⟩
noncomputable def DS120 : Entry := (entryE [] Sl120_0 Sg120_0 Sr120_0 DB120)
noncomputable def DCL88 : Ctx := { C88 NN [(120, DS120)] [] with vnil := [40, 174], out := [], ret := some [4], joins := [] }
noncomputable def DR88 : Entry := ⟨[], runFn DCL88 Try.f88⟩
noncomputable def DCL48 : Ctx := { C48 NN [(88, DR88)] [] with vnil := [40, 174], out := [], ret := some [8], joins := [] }
noncomputable def DR48 : Entry := ⟨[], runFn DCL48 Try.f48⟩
noncomputable def DCL50 : Ctx := { C50 NN [] [] with vnil := [40, 174], out := [], ret := some [4], joins := [] }
noncomputable def DR50 : Entry := ⟨[], runFn DCL50 Try.f50⟩
noncomputable def DCL52 : Ctx := { C52 NN [] [] with vnil := [40, 174], out := [], ret := some [2], joins := [] }
noncomputable def DR52 : Entry := ⟨[], runFn DCL52 Try.f52⟩
noncomputable def DCL56 : Ctx := { C56 NN [] [] with vnil := [40, 174], out := [(0, [5])], ret := some [2], joins := [] }
noncomputable def DR56 : Entry := ⟨[], runFn DCL56 Try.f56⟩
noncomputable def DCL123 : Ctx := { C123 NN [] [(0, loopE 0 Ll123_0_0 Lg123_0_0 Lr123_0_0)] with vnil := [40, 174], out := [(0, []), (1, [0, 1, 12, 13])], ret := some [4], joins := [] }
noncomputable def DB123 : Entry := ⟨[], runFn DCL123 Try.f123⟩
noncomputable def DS123 : Entry := (entryE [] Sl123_0 Sg123_0 Sr123_0 DB123)
noncomputable def DCL92 : Ctx := { C92 NN [(123, DS123)] [] with vnil := [40, 174], out := [], ret := some [4], joins := [] }
noncomputable def DR92 : Entry := ⟨[], runFn DCL92 Try.f92⟩
noncomputable def DCL53 : Ctx := { C53 NN [(49, R49), (56, DR56), (92, DR92)] [] with vnil := [40, 174], out := [(0, [2])], ret := some [4, 5], joins := [] }
noncomputable def DR53 : Entry := ⟨[], runFn DCL53 Try.f53⟩
noncomputable def DCL102 : Ctx := { C102 NN [] [] with vnil := [40, 174], out := [], ret := some [2], joins := [] }
noncomputable def DR102 : Entry := ⟨[], runFn DCL102 Try.f102⟩
noncomputable def DCL67 : Ctx := { C67 NN [(102, DR102)] [] with vnil := [40, 174], out := [], ret := some [4], joins := [] }
noncomputable def DR67 : Entry := ⟨[], runFn DCL67 Try.f67⟩
noncomputable def DCL75 : Ctx := { C75 NN [] [(0, loopE 0 Ll75_0_0 Lg75_0_0 Lr75_0_0)] with vnil := [40, 174], out := [(0, [3]), (1, [3, 6, 7, 8])], ret := some [2], joins := [] }
noncomputable def DB75 : Entry := ⟨[], runFn DCL75 Try.f75⟩
noncomputable def DS75 : Entry := (entryE [] Sl75_0 Sg75_0 Sr75_0 DB75)
noncomputable def DCL93 : Ctx := { C93 NN [(67, DR67), (75, DS75)] [] with vnil := [40, 174], out := [], ret := some [4], joins := [] }
noncomputable def DB93 : Entry := ⟨[], runFn DCL93 Try.f93⟩
noncomputable def DS93 : Entry := (entryE [] Sl93_0 Sg93_0 Sr93_0 DB93)
noncomputable def DCL55 : Ctx := { C55 NN [(93, DS93)] [] with vnil := [40, 174], out := [], ret := some [4], joins := [] }
noncomputable def DB55 : Entry := ⟨[], runFn DCL55 Try.f55⟩
noncomputable def DS55 : Entry := (entryE [] Sl55_0 Sg55_0 Sr55_0 DB55)
noncomputable def DCL54 : Ctx := { C54 NN [(49, R49), (55, DS55)] [(0, loopE 0 Ll54_0_0 Lg54_0_0 Lr54_0_0)] with vnil := [40, 174], out := [(0, [3]), (1, [3, 6, 7, 8])], ret := some [2], joins := [] }
noncomputable def DB54 : Entry := ⟨[], runFn DCL54 Try.f54⟩
noncomputable def DS54 : Entry := (entryE [] Sl54_0 Sg54_0 Sr54_0 DB54)
noncomputable def DCL13 : Ctx := { C13 NN [(48, DR48), (49, R49), (50, DR50), (51, R51), (52, DR52), (53, DR53), (54, DS54)] [(0, loopE 7 Ll13_0_0 Lg13_0_0 Lr13_0_0)] with vnil := [40, 174], out := [(0, [0, 11]), (1, [0, 11, 54, 55, 56])], ret := some [8], joins := [] }
noncomputable def DB13 : Entry := ⟨[3], runFn DCL13 Try.f13⟩
noncomputable def DS13 : Entry := (entryE [3] Sl13_0 Sg13_0 Sr13_0 DB13)
noncomputable def DCL14 : Ctx := { C14 NN [(48, DR48), (50, DR50)] [] with vnil := [40, 174], out := [], ret := some [6], joins := [] }
noncomputable def DR14 : Entry := ⟨[], runFn DCL14 Try.f14⟩
noncomputable def DCL15 : Ctx := { C15 NN [(48, DR48), (55, DS55)] [] with vnil := [40, 174], out := [], ret := some [8], joins := [] }
noncomputable def DB15 : Entry := ⟨[], runFn DCL15 Try.f15⟩
noncomputable def DS15 : Entry := (entryE [] Sl15_0 Sg15_0 Sr15_0 DB15)
noncomputable def DCL20 : Ctx := { C20 NN [(49, R49), (56, DR56)] [] with vnil := [40, 174], out := [], ret := some [6, 7], joins := [] }
noncomputable def DB20 : Entry := ⟨[], runFn DCL20 Try.f20⟩
noncomputable def DS20 : Entry := (entryE [] Sl20_0 Sg20_0 Sr20_0 DB20)
noncomputable def DCL25 : Ctx := { C25 NN [] [(0, loopE 0 Ll25_0_0 Lg25_0_0 Lr25_0_0)] with vnil := [40, 174], out := [(0, []), (1, [0, 1, 12, 13])], ret := some [4], joins := [] }
noncomputable def DB25 : Entry := ⟨[], runFn DCL25 Try.f25⟩
noncomputable def DS25 : Entry := (entryE [] Sl25_0 Sg25_0 Sr25_0 DB25)
noncomputable def DCL84 : Ctx := { C84 NN [] [] with vnil := [40, 174], out := [], ret := some [2], joins := [] }
noncomputable def DR84 : Entry := ⟨[], runFn DCL84 Try.f84⟩
noncomputable def DCL42 : Ctx := { C42 NN [(84, DR84)] [] with vnil := [40, 174], out := [], ret := some [6, 7], joins := [] }
noncomputable def DB42 : Entry := ⟨[], runFn DCL42 Try.f42⟩
noncomputable def DS42 : Entry := (entryE [] Sl42_0 Sg42_0 Sr42_0 DB42)
noncomputable def DCL43 : Ctx := { C43 NN [] [] with vnil := [40, 174], out := [], ret := some [2], joins := [] }
noncomputable def DR43 : Entry := ⟨[], runFn DCL43 Try.f43⟩
noncomputable def DCL85 : Ctx := { C85 NN [] [(0, loopE 0 Ll85_0_0 Lg85_0_0 Lr85_0_0)] with vnil := [40, 174], out := [(0, [3]), (1, [0, 3, 4])], ret := some [2], joins := [] }
noncomputable def DB85 : Entry := ⟨[], runFn DCL85 Try.f85⟩
noncomputable def DS85 : Entry := (entryE [] Sl85_0 Sg85_0 Sr85_0 DB85)
noncomputable def DCL119 : Ctx := { C119 NN [] [(0, loopE 0 Ll119_0_0 Lg119_0_0 Lr119_0_0)] with vnil := [40, 174], out := [(0, []), (1, [0, 1, 5])], ret := some [4], joins := [] }
noncomputable def DB119 : Entry := ⟨[], runFn DCL119 Try.f119⟩
noncomputable def DS119 : Entry := (entryE [] Sl119_0 Sg119_0 Sr119_0 DB119)
noncomputable def DCL86 : Ctx := { C86 NN [(84, DR84), (119, DS119)] [] with vnil := [40, 174], out := [], ret := some [4, 5], joins := [] }
noncomputable def DB86 : Entry := ⟨[], runFn DCL86 Try.f86⟩
noncomputable def DS86 : Entry := (entryE [] Sl86_0 Sg86_0 Sr86_0 DB86)
noncomputable def DCL23 : Ctx := { C23 NN [] [] with vnil := [40, 174], out := [], ret := some [4], joins := [] }
noncomputable def DR23 : Entry := ⟨[], runFn DCL23 Try.f23⟩
noncomputable def DCL87 : Ctx := { C87 NN [(23, DR23)] [(0, loopE 0 Ll87_0_0 Lg87_0_0 Lr87_0_0)] with vnil := [40, 174], out := [(0, [3]), (1, [0, 3, 4])], ret := some [2], joins := [] }
noncomputable def DB87 : Entry := ⟨[], runFn DCL87 Try.f87⟩
noncomputable def DS87 : Entry := (entryE [] Sl87_0 Sg87_0 Sr87_0 DB87)
noncomputable def DCL44 : Ctx := { C44 NN [(85, DS85), (86, DS86), (87, DS87)] [(0, loopE 4 Ll44_0_0 Lg44_0_0 Lr44_0_0)] with vnil := [40, 174], out := [(0, [0, 9]), (1, [0, 9, 10])], ret := some [8], joins := [] }
noncomputable def DB44 : Entry := ⟨[], runFn DCL44 Try.f44⟩
noncomputable def DS44 : Entry := (entryE [] Sl44_0 Sg44_0 Sr44_0 DB44)
noncomputable def DCL45 : Ctx := { C45 NN [(85, DS85)] [] with vnil := [40, 174], out := [], ret := some [6], joins := [] }
noncomputable def DB45 : Entry := ⟨[], runFn DCL45 Try.f45⟩
noncomputable def DS45 : Entry := (entryE [] Sl45_0 Sg45_0 Sr45_0 DB45)
noncomputable def DCL46 : Ctx := { C46 NN [(23, DR23)] [] with vnil := [40, 174], out := [], ret := some [8], joins := [] }
noncomputable def DB46 : Entry := ⟨[], runFn DCL46 Try.f46⟩
noncomputable def DS46 : Entry := (entryE [] Sl46_0 Sg46_0 Sr46_0 DB46)
noncomputable def DCL16 : Ctx := { C16 NN [] [] with vnil := [40, 174], out := [], ret := some [2], joins := [] }
noncomputable def DR16 : Entry := ⟨[], runFn DCL16 Try.f16⟩
noncomputable def DCL18 : Ctx := { C18 NN [(49, R49)] [] with vnil := [40, 174], out := [], ret := some [2], joins := [] }
noncomputable def DR18 : Entry := ⟨[], runFn DCL18 Try.f18⟩
noncomputable def DCL12 : Ctx := { C12 NN [(16, DR16), (18, DR18)] [] with vnil := [40, 174], out := [], ret := some [2, 3], joins := [] }
noncomputable def DR12 : Entry := ⟨[], runFn DCL12 Try.f12⟩
noncomputable def DCL17 : Ctx := { C17 NN [] [] with vnil := [40, 174], out := [], ret := some [2], joins := [] }
noncomputable def DR17 : Entry := ⟨[], runFn DCL17 Try.f17⟩
noncomputable def DCL19 : Ctx := { C19 NN [] [] with vnil := [40, 174], out := [], ret := some [2], joins := [] }
noncomputable def DR19 : Entry := ⟨[], runFn DCL19 Try.f19⟩
noncomputable def DCL47 : Ctx := { C47 NN [(12, DR12), (16, DR16), (17, DR17), (18, DR18), (19, DR19), (25, DS25), (43, DR43)] [(0, loopE 10 Ll47_0_0 Lg47_0_0 Lr47_0_0)] with vnil := [40, 174], out := [(0, [0, 1, 79, 80, 81, 82, 83, 84, 85, 88, 89, 90, 91, 92, 93, 94]), (1, [0, 1, 7, 63, 64, 79, 80, 81, 82, 83, 84, 85, 88, 89, 90, 91, 92, 93, 94])], ret := some [4], joins := [] }
noncomputable def DB47 : Entry := ⟨[], runFn DCL47 Try.f47⟩
noncomputable def DS47 : Entry := (entryE [] Sl47_0 Sg47_0 Sr47_0 DB47)
noncomputable def DCL10 : Ctx := { C10 NN [(11, R11), (13, DS13), (14, DR14), (15, DS15), (20, DS20), (25, DS25), (42, DS42), (43, DR43), (44, DS44), (45, DS45), (46, DS46), (47, DS47)] [(0, loopE 0 Ll10_0_0 Lg10_0_0 Lr10_0_0), (3, loopE 0 Ll10_3_0 Lg10_3_0 Lr10_3_0)] with vnil := [40, 174], out := [(0, []), (1, [5, 9, 11, 64, 65, 66, 157, 158, 159, 160]), (2, [5, 9, 11, 14, 15, 16, 17, 64, 65, 66, 157, 158, 159, 160]), (3, [5, 9, 11, 16, 17, 64, 65, 66, 157, 158, 159, 160]), (4, [5, 9, 11, 15, 16, 17, 64, 65, 66, 144, 145, 157, 158, 159, 160])], ret := some [8], joins := [(16, ([5, 9, 11, 14, 64, 65, 66, 157, 158, 159, 160], [5, 9, 11, 64, 65, 66, 157, 158, 159, 160]), loopE 0 Kl10_16_0 Kg10_16_0 Kr10_16_0), (25, ([5, 9, 11, 14, 15, 16, 17, 64, 65, 66, 157, 158, 159, 160], [5, 9, 11, 64, 65, 66, 157, 158, 159, 160]), loopE 0 Kl10_25_0 Kg10_25_0 Kr10_25_0), (32, ([5, 9, 11, 16, 17, 64, 65, 66, 157, 158, 159, 160], [5, 9, 11, 64, 65, 66, 157, 158, 159, 160]), loopE 0 Kl10_32_0 Kg10_32_0 Kr10_32_0)] }
noncomputable def DB10 : Entry := ⟨[], runFn DCL10 Try.f10⟩
noncomputable def DS10 : Entry := (entryE [] Sl10_0 Sg10_0 Sr10_0 DB10)
noncomputable def DCL3 : Ctx := { C3 NN [(10, DS10)] [] with vnil := [40, 174], out := [], ret := some [2], joins := [] }
noncomputable def DB3 : Entry := ⟨[], runFn DCL3 Try.f3⟩
noncomputable def DS3 : Entry := (entryE [] Sl3_0 Sg3_0 Sr3_0 DB3)
end Go.Proofs.Ytcafnbjmebichaa
