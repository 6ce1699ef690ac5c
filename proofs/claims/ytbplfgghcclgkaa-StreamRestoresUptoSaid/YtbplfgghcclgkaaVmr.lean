/- For each function its walk, over the functions and loops that are told by what they do. No conditions. -/
import Derived.Test.YtbplfgghcclgkaaVmf
import Derived.Test.YtbplfgghcclgkaaSpecP
import Derived.Test.YtbplfgghcclgkaaSpecS
open Go.VM
namespace Go.Proofs.Ytbplfgghcclgkaa
noncomputable def R68 : Entry := ⟨[], runFn (C68 NN [] []) Try.f68⟩
noncomputable def R69 : Entry := ⟨[], extClone T 3⟩
noncomputable def R70 : Entry := ⟨[], runFn (C70 NN [] []) Try.f70⟩
noncomputable def R71 : Entry := ⟨[], runFn (C71 NN [] []) Try.f71⟩
noncomputable def R29 : Entry := ⟨[], runFn (C29 NN [(68, R68), (69, R69), (70, R70), (71, R71)] []) Try.f29⟩
noncomputable def R72 : Entry := ⟨[], runFn (C72 NN [] []) Try.f72⟩
noncomputable def R30 : Entry := ⟨[], runFn (C30 NN [(72, R72)] []) Try.f30⟩
noncomputable def R31 : Entry := ⟨[], runFn (C31 NN [(72, R72)] []) Try.f31⟩
noncomputable def R104 : Entry := ⟨[], runFn (C104 NN [] []) Try.f104⟩
noncomputable def R129 : Entry := ⟨[], runFn (C129 NN [] []) Try.f129⟩
noncomputable def B105 : Entry := ⟨[], runFn (C105 NN [(129, R129)] []) Try.f105⟩
noncomputable def S105 : Entry := entryE [] Sl105 Sg105 Sr105 B105
noncomputable def B61 : Entry := ⟨[], runFn (C61 NN [(104, R104), (105, S105)] []) Try.f61⟩
noncomputable def S61 : Entry := entryE [] Sl61 Sg61 Sr61 B61
noncomputable def R102 : Entry := ⟨[], runFn (C102 NN [] []) Try.f102⟩
noncomputable def B128 : Entry := ⟨[], runFn (C128 NN [] []) Try.f128⟩
noncomputable def S128 : Entry := entryE [] Sl128 Sg128 Sr128 B128
noncomputable def R103 : Entry := ⟨[], runFn (C103 NN [(128, S128)] []) Try.f103⟩
noncomputable def B122 : Entry := ⟨[], runFn (C122 NN [] []) Try.f122⟩
noncomputable def S122 : Entry := entryE [] Sl122 Sg122 Sr122 B122
noncomputable def B107 : Entry := ⟨[], runFn (C107 NN [(102, R102), (103, R103), (122, S122)] LT107) Try.f107⟩
noncomputable def CL107 : Ctx := (C107 NN [(102, R102), (103, R103), (122, S122)] LT107)
noncomputable def S107 : Entry := entryE [] Sl107 Sg107 Sr107 B107
noncomputable def B135 : Entry := ⟨[], runFn (C135 NN [(61, S61)] []) Try.f135⟩
noncomputable def S135 : Entry := entryE [] Sl135 Sg135 Sr135 B135
noncomputable def B149 : Entry := ⟨[], runFn (C149 NN [(135, S135)] LT149) Try.f149⟩
noncomputable def CL149 : Ctx := (C149 NN [(135, S135)] LT149)
noncomputable def S149 : Entry := entryE [] Sl149 Sg149 Sr149 B149
noncomputable def R136 : Entry := ⟨[], runFn (C136 NN [(149, S149)] []) Try.f136⟩
noncomputable def B112 : Entry := ⟨[], runFn (C112 NN [(107, S107), (136, R136)] []) Try.f112⟩
noncomputable def S112 : Entry := entryE [] Sl112 Sg112 Sr112 B112
noncomputable def R76 : Entry := ⟨[], runFn (C76 NN [(112, S112)] []) Try.f76⟩
noncomputable def B75 : Entry := ⟨[], runFn (C75 NN [(76, R76)] []) Try.f75⟩
noncomputable def S75 : Entry := entryE [] Sl75 Sg75 Sr75 B75
noncomputable def R80 : Entry := ⟨[], runFn (C80 NN [] []) Try.f80⟩
noncomputable def R101 : Entry := ⟨[], runFn (C101 NN [] []) Try.f101⟩
noncomputable def B111 : Entry := ⟨[], runFn (C111 NN [(75, S75), (80, R80), (101, R101)] LT111) Try.f111⟩
noncomputable def CL111 : Ctx := (C111 NN [(75, S75), (80, R80), (101, R101)] LT111)
noncomputable def S111 : Entry := entryE [] Sl111 Sg111 Sr111 B111
noncomputable def R74 : Entry := ⟨[0], runFn (C74 NN [(75, S75), (80, R80), (101, R101), (111, S111)] []) Try.f74⟩
noncomputable def R33 : Entry := ⟨[], runFn (C33 NN [(61, S61), (70, R70), (74, R74)] []) Try.f33⟩
noncomputable def R38 : Entry := ⟨[], runFn (C38 NN [(72, R72)] []) Try.f38⟩
noncomputable def R73 : Entry := ⟨[], extClone T 38⟩
noncomputable def R114 : Entry := ⟨[], runFn (C114 NN [] []) Try.f114⟩
noncomputable def R113 : Entry := ⟨[], runFn (C113 NN [(114, R114)] []) Try.f113⟩
noncomputable def R115 : Entry := ⟨[0, 2], extInsert 38⟩
noncomputable def R79 : Entry := ⟨[], runFn (C79 NN [(73, R73), (113, R113), (115, R115)] []) Try.f79⟩
noncomputable def R40 : Entry := ⟨[], runFn (C40 NN [(74, R74), (79, R79)] []) Try.f40⟩
noncomputable def R27 : Entry := ⟨[], runFn (C27 NN [(29, R29), (30, R30), (31, R31), (33, R33), (38, R38), (40, R40)] []) Try.f27⟩
noncomputable def R81 : Entry := ⟨[], extClone T 53⟩
end Go.Proofs.Ytbplfgghcclgkaa
