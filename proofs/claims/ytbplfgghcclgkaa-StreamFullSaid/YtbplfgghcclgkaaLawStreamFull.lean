/- The statement Rows.StreamFullSaid: whatever the input, the law answers true and leaves its input as it was; no further conditions. -/
import Derived.Test.YtbplfgghcclgkaaRows
import Derived.Test.YtbplfgghcclgkaaD9pf
import Derived.Test.YtbplfgghcclgkaaPf
open Go Go.VM
namespace Go.Proofs.Ytbplfgghcclgkaa
open Go.RowKit Go.ChangeShapes
set_option maxRecDepth 100000
theorem Try.own : ownKnob Try.prog.godebug = none := by kernel_rfl
theorem Try.laidOut : laidOutB Try.prog = true := by kernel_rfl
theorem streamFullLaw (Vs : List V) (h : Ins T [3, 22, 3] Vs) : All (fun v => v = V.bool true) (DB9.run Vs [] fun v _ => .ret v) := by
  obtain ⟨v1, l2, rfl, hv3, h4⟩ := h.one
  obtain ⟨v5, l6, rfl, hv7, h8⟩ := h4.one
  obtain ⟨v9, l10, rfl, hv11, h12⟩ := h8.one
  cases h12.none
  obtain ⟨n13, rfl, r14⟩ := hv3.int' (k := .i64) (by kernel_rfl)
  obtain ⟨n15, f16, rfl, r17⟩ := hv7.slice' (e := 3) (by kernel_rfl)
  obtain ⟨n18, rfl, r19⟩ := hv11.int' (k := .i64) (by kernel_rfl)
  rw [fq9_0]
  exact fullP _ _ _ _ _ _ _ rfl rfl
theorem streamFull_lifted (os : Os) (started : os.Started) (H : Type) (enc : TypeId × Value → H) :
    ReturnsInHanded {} Try.checked os 9 .any (Rows.streamFullSpec.pre6 enc Try.prog Try.f9 Rows.streamFullRow.domain false) (Rows.streamFullSpec.post enc Try.prog Try.f9 false true false false) := by
  refine returnsInHanded_of_change (C := Try.checked) Try.own started (by kernel_rfl) Try.func9
    (ChangeSpec.witness6 (enc := enc) (C := Try.checked) false ⟨#[], #[.int .i64 0, .slice none 0 0, .int .i64 0], []⟩ 8 (by kernel_rfl) (by kernel_rfl) (by kernel_rfl) (by kernel_rfl)) ?_
  intro W base args ds gs before hval hW hcnd _
  exact law_calls tabOK okDB9 Try.func9 (by kernel_rfl) (by kernel_rfl) (by kernel_rfl) (by kernel_rfl) Try.laidOut (tb := 4) (by kernel_rfl) (by kernel_rfl) rfl
    (fun ds h => by
      match ds, h with
      | [d0, d1, d2], _ => rfl) streamFullLaw W base args ds gs before hval hW
theorem streamFull_holds : Rows.StreamFullSaid :=
  OpenClaim.holds_of_wide 9 Try.f9 rfl rfl rfl rfl rfl rfl rfl ⟨rfl, rfl, rfl, rfl, rfl⟩ rfl rfl rfl rfl rfl (by kernel_rfl) Try.func9 (by kernel_rfl)
    (of_decide_eq_true (by kernel_rfl)) (by unfold Func.isWrapper; first | (rw [if_pos (by decide +kernel)]; kernel_rfl) | (rw [if_neg (by decide +kernel)]; exact ⟨rfl, rfl⟩))
    (fun os started H enc _ => streamFull_lifted os started H enc)
end Go.Proofs.Ytbplfgghcclgkaa
