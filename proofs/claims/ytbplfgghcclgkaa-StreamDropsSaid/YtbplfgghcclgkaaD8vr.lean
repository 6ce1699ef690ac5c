/- For each function its walk, over the functions and loops that are told by what they do. No conditions. -/
import Derived.Test.YtbplfgghcclgkaaD8sp
open Go Go.VM
namespace Go.Proofs.Ytbplfgghcclgkaa
noncomputable def DCL28 : Ctx := C28 NN [] [(0, loopE 0 Ll28_0_0 Lg28_0_0 Lr28_0_0)]
noncomputable def DB28 : Entry := ⟨[], runFn DCL28 Try.f28⟩
noncomputable def DS28 : Entry := (entryE [] Sl28_0 Sg28_0 Sr28_0 DB28)
noncomputable def DCL68 : Ctx := C68 NN [] [(0, loopE 0 Ll68_0_0 Lg68_0_0 Lr68_0_0)]
noncomputable def DB68 : Entry := ⟨[], runFn DCL68 Try.f68⟩
noncomputable def DS68 : Entry := (entryE [] Sl68_0 Sg68_0 Sr68_0 DB68)
noncomputable def DCL70 : Ctx := C70 NN [] []
noncomputable def DR70 : Entry := ⟨[], runFn DCL70 Try.f70⟩
noncomputable def DCL71 : Ctx := C71 NN [] []
noncomputable def DR71 : Entry := ⟨[], runFn DCL71 Try.f71⟩
noncomputable def DCL29 : Ctx := C29 NN [(68, DS68), (69, R69), (70, DR70), (71, DR71)] [(0, loopE 0 Ll29_0_0 Lg29_0_0 Lr29_0_0)]
noncomputable def DB29 : Entry := ⟨[], runFn DCL29 Try.f29⟩
noncomputable def DS29 : Entry := (entryE [] Sl29_0 Sg29_0 Sr29_0 DB29)
noncomputable def DCL72 : Ctx := C72 NN [] []
noncomputable def DR72 : Entry := ⟨[], runFn DCL72 Try.f72⟩
noncomputable def DCL30 : Ctx := C30 NN [(72, DR72)] []
noncomputable def DR30 : Entry := ⟨[], runFn DCL30 Try.f30⟩
noncomputable def DCL31 : Ctx := C31 NN [(72, DR72)] []
noncomputable def DR31 : Entry := ⟨[], runFn DCL31 Try.f31⟩
noncomputable def DCL32 : Ctx := C32 NN [(73, R73)] []
noncomputable def DR32 : Entry := ⟨[], runFn DCL32 Try.f32⟩
noncomputable def DCL80 : Ctx := C80 NN [] []
noncomputable def DR80 : Entry := ⟨[], runFn DCL80 Try.f80⟩
noncomputable def DCL101 : Ctx := C101 NN [] []
noncomputable def DR101 : Entry := ⟨[], runFn DCL101 Try.f101⟩
noncomputable def DCL111 : Ctx := C111 NN [(75, S75), (80, DR80), (101, DR101)] [(0, loopE 5 Ll111_0_0 Lg111_0_0 Lr111_0_0)]
noncomputable def DB111 : Entry := ⟨[], runFn DCL111 Try.f111⟩
noncomputable def DS111 : Entry := (entryE [] Sl111_0 Sg111_0 Sr111_0 DB111)
noncomputable def DCL74 : Ctx := C74 NN [(75, S75), (80, DR80), (101, DR101), (111, DS111)] [(0, loopE 5 Ll74_0_0 Lg74_0_0 Lr74_0_0)]
noncomputable def DB74 : Entry := ⟨[0], runFn DCL74 Try.f74⟩
noncomputable def DS74 : Entry := (entryE [0] Sl74_0 Sg74_0 Sr74_0 DB74)
noncomputable def DCL33 : Ctx := C33 NN [(61, S61), (70, DR70), (74, DS74)] [(0, loopE 4 Ll33_0_0 Lg33_0_0 Lr33_0_0)]
noncomputable def DB33 : Entry := ⟨[], runFn DCL33 Try.f33⟩
noncomputable def DS33 : Entry := (entryE [] Sl33_0 Sg33_0 Sr33_0 DB33)
noncomputable def DCL34 : Ctx := C34 NN [] [(0, loopE 0 Ll34_0_0 Lg34_0_0 Lr34_0_0)]
noncomputable def DB34 : Entry := ⟨[], runFn DCL34 Try.f34⟩
noncomputable def DS34 : Entry := (entryE [] Sl34_0 Sg34_0 Sr34_0 DB34)
noncomputable def DCL77 : Ctx := C77 NN [] []
noncomputable def DR77 : Entry := ⟨[], runFn DCL77 Try.f77⟩
noncomputable def DCL78 : Ctx := C78 NN [] []
noncomputable def DR78 : Entry := ⟨[], runFn DCL78 Try.f78⟩
noncomputable def DCL35 : Ctx := C35 NN [(77, DR77), (78, DR78)] [(0, loopE 0 Ll35_0_0 Lg35_0_0 Lr35_0_0)]
noncomputable def DB35 : Entry := ⟨[], runFn DCL35 Try.f35⟩
noncomputable def DS35 : Entry := (entryE [] Sl35_0 Sg35_0 Sr35_0 DB35)
noncomputable def DCL36 : Ctx := C36 NN [] []
noncomputable def DR36 : Entry := ⟨[], runFn DCL36 Try.f36⟩
noncomputable def DCL8 : Ctx := C8 NN [(27, R27), (28, DS28), (29, DS29), (30, DR30), (31, DR31), (32, DR32), (33, DS33), (34, DS34), (35, DS35), (36, DR36)] [(0, loopE 0 Ll8_0_0 Lg8_0_0 Lr8_0_0), (2, loopE 0 Ll8_2_0 Lg8_2_0 Lr8_2_0), (4, loopE 0 Ll8_4_0 Lg8_4_0 Lr8_4_0)]
noncomputable def DB8 : Entry := ⟨[], runFn DCL8 Try.f8⟩
noncomputable def DS8 : Entry := (entryE [] Sl8_0 Sg8_0 Sr8_0 DB8)
end Go.Proofs.Ytbplfgghcclgkaa
