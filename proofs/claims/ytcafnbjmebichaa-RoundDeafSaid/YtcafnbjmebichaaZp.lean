/- Answers that are not taken: each is as its walk says. No conditions. -/
import Derived.Test.YtcafnbjmebichaaZd
import Derived.Test.YtcafnbjmebichaaVmk
import Derived.KernelRfl
open Go Go.VM
namespace Go.Proofs.Ytcafnbjmebichaa
set_option maxRecDepth 100000
theorem okZ48 : EntryOK Try.prog T 48 Z48 := noTrue_ok @ok48
theorem okZ13 : EntryOK Try.prog T 13 Z13 := @ok_of Try.prog T tabOK mixedOK (C13 NN [(48, Z48), (49, R49), (50, R50), (51, R51), (52, R52), (53, R53), (54, R54)] []) (by kernel_rfl) (fnsL_cons okZ48 (fnsL_cons ok49 (fnsL_cons ok50 (fnsL_cons ok51 (fnsL_cons ok52 (fnsL_cons ok53 (fnsL_cons ok54 fnsL_nil))))))) 13 Try.f13 Try.func13 (by kernel_rfl) (by kernel_rfl) (by kernel_rfl) (loops_none (by kernel_rfl)) [] (joins_none (by kernel_rfl))
theorem okZ14 : EntryOK Try.prog T 14 Z14 := @ok_of Try.prog T tabOK mixedOK (C14 NN [(48, Z48), (50, R50)] []) (by kernel_rfl) (fnsL_cons okZ48 (fnsL_cons ok50 fnsL_nil)) 14 Try.f14 Try.func14 (by kernel_rfl) (by kernel_rfl) (by kernel_rfl) (loops_none (by kernel_rfl)) [] (joins_none (by kernel_rfl))
theorem okZ15 : EntryOK Try.prog T 15 Z15 := @ok_of Try.prog T tabOK mixedOK (C15 NN [(48, Z48), (55, R55)] []) (by kernel_rfl) (fnsL_cons okZ48 (fnsL_cons ok55 fnsL_nil)) 15 Try.f15 Try.func15 (by kernel_rfl) (by kernel_rfl) (by kernel_rfl) (loops_none (by kernel_rfl)) [] (joins_none (by kernel_rfl))
end Go.Proofs.Ytcafnbjmebichaa
