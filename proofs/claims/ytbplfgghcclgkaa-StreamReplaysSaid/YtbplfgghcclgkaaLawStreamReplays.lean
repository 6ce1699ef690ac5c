/- The statement Rows.StreamReplaysSaid: whatever the input, the law answers true and leaves its input as it was; no further conditions. -/
import Derived.Test.YtbplfgghcclgkaaRows
import Derived.SizedLaws
import Derived.Test.YtbplfgghcclgkaaD11pf
import Derived.Test.YtbplfgghcclgkaaPb
import Derived.Test.YtbplfgghcclgkaaP11s
import Derived.Test.YtbplfgghcclgkaaP11a
import Derived.Test.YtbplfgghcclgkaaP11r
import Derived.Test.YtbplfgghcclgkaaP11t
import Derived.Test.YtbplfgghcclgkaaP11h
import Derived.Test.YtbplfgghcclgkaaP11l
import Derived.Test.YtbplfgghcclgkaaP11z
open Go Go.VM
namespace Go.Proofs.Ytbplfgghcclgkaa
open Go.RowKit Go.ChangeShapes
set_option maxRecDepth 100000
theorem Try.own : ownKnob Try.prog.godebug = none := by kernel_rfl
theorem Try.laidOut : laidOutB Try.prog = true := by kernel_rfl
theorem streamReplaysLaw (Vs : List V) (h : Ins T [73, 3] Vs) : All (fun v => v = V.bool true) (DB11.run Vs [] fun v _ => .ret v) := by
  obtain ⟨v1, l2, rfl, hv3, h4⟩ := h.one
  obtain ⟨v5, l6, rfl, hv7, h8⟩ := h4.one
  cases h8.none
  obtain ⟨l9, rfl, h10⟩ := hv3.st' (fs := [22, 3, 3, 71]) (by kernel_rfl)
  obtain ⟨v11, l12, rfl, hv13, h14⟩ := h10.one
  obtain ⟨v15, l16, rfl, hv17, h18⟩ := h14.one
  obtain ⟨v19, l20, rfl, hv21, h22⟩ := h18.one
  obtain ⟨v23, l24, rfl, hv25, h26⟩ := h22.one
  cases h26.none
  obtain ⟨n27, f28, rfl, r29⟩ := hv13.slice'' (e := 3) (by kernel_rfl)
  obtain ⟨n30, rfl, r31⟩ := hv17.int' (k := .i64) (by kernel_rfl)
  obtain ⟨n32, rfl, r33⟩ := hv21.int' (k := .i64) (by kernel_rfl)
  obtain ⟨n34, f35, rfl, r36⟩ := hv25.slice'' (e := 79) (by kernel_rfl)
  obtain ⟨n37, rfl, r38⟩ := hv7.int' (k := .i64) (by kernel_rfl)
  rw [fq11_0]
  exact replaysP _ _ _ _ _ _ _ _ _ r36.1 rfl
theorem streamReplays_lifted (os : Os) (started : os.Started) (H : Type) (enc : TypeId × Value → H) :
    ReturnsInHanded {} Try.checked os 11 .any (Rows.streamReplaysSpec.pre6 enc Try.prog Try.f11 Rows.streamReplaysRow.domain false) (Rows.streamReplaysSpec.post enc Try.prog Try.f11 false true false false) := by
  refine returnsInHanded_of_change_sized (C := Try.checked) Try.own started (by kernel_rfl) Try.func11
    (ChangeSpec.witness6 (enc := enc) (C := Try.checked) false ⟨#[], #[.agg #[.slice none 0 0, .int .i64 0, .int .i64 0, .slice none 0 0], .int .i64 0], []⟩ 8 (by kernel_rfl) (by kernel_rfl) (by kernel_rfl) (by kernel_rfl)) ?_
  intro W base args ds gs before hval hW hcnd hwt _
  exact law_calls tabOK (by kernel_rfl) okDB11 Try.func11 (by kernel_rfl) (by kernel_rfl) (by kernel_rfl) (by kernel_rfl) Try.laidOut (tb := 4) (by kernel_rfl) (by kernel_rfl) rfl
    (fun ds h => by
      match ds, h with
      | [d0, d1], _ => rfl) streamReplaysLaw W base args ds gs before hval hW hwt
theorem streamReplays_holds : Rows.StreamReplaysSaid :=
  OpenClaim.holds_of_wide 11 Try.f11 rfl rfl rfl rfl rfl rfl rfl ⟨rfl, rfl, rfl, rfl, rfl⟩ rfl rfl rfl rfl rfl (by kernel_rfl) Try.func11 (by kernel_rfl)
    (of_decide_eq_true (by kernel_rfl)) (by unfold Func.isWrapper; first | (rw [if_pos (by decide +kernel)]; kernel_rfl) | (rw [if_neg (by decide +kernel)]; exact ⟨rfl, rfl⟩))
    (fun os started H enc _ => streamReplays_lifted os started H enc)
end Go.Proofs.Ytbplfgghcclgkaa
