/- The statement Rows.StreamRisesSaid: whatever the input, the law answers true and leaves its input as it was; no further conditions. -/
import Derived.Test.YtbplfgghcclgkaaRows
import Derived.Test.YtbplfgghcclgkaaD10pf
import Derived.Test.YtbplfgghcclgkaaPr
open Go Go.VM
namespace Go.Proofs.Ytbplfgghcclgkaa
open Go.RowKit Go.ChangeShapes
set_option maxRecDepth 100000
theorem Try.own : ownKnob Try.prog.godebug = none := by kernel_rfl
theorem Try.laidOut : laidOutB Try.prog = true := by kernel_rfl
theorem streamRisesLaw (Vs : List V) (h : Ins T [73] Vs) : All (fun v => v = V.bool true) (DB10.run Vs [] fun v _ => .ret v) := by
  obtain ⟨v1, l2, rfl, hv3, h4⟩ := h.one
  cases h4.none
  obtain ⟨l5, rfl, h6⟩ := hv3.st' (fs := [22, 3, 3, 71]) (by kernel_rfl)
  obtain ⟨v7, l8, rfl, hv9, h10⟩ := h6.one
  obtain ⟨v11, l12, rfl, hv13, h14⟩ := h10.one
  obtain ⟨v15, l16, rfl, hv17, h18⟩ := h14.one
  obtain ⟨v19, l20, rfl, hv21, h22⟩ := h18.one
  cases h22.none
  obtain ⟨n23, f24, rfl, r25⟩ := hv9.slice' (e := 3) (by kernel_rfl)
  obtain ⟨n26, rfl, r27⟩ := hv13.int' (k := .i64) (by kernel_rfl)
  obtain ⟨n28, rfl, r29⟩ := hv17.int' (k := .i64) (by kernel_rfl)
  obtain ⟨n30, f31, rfl, r32⟩ := hv21.slice' (e := 79) (by kernel_rfl)
  rw [fq10_0]
  exact risesP _ _ _ _ _ _ _ _ _ (by have := r32.1; simp only [maxLen] at this; omega) rfl rfl
theorem streamRises_lifted (os : Os) (started : os.Started) (H : Type) (enc : TypeId × Value → H) :
    ReturnsInHanded {} Try.checked os 10 .any (Rows.streamRisesSpec.pre6 enc Try.prog Try.f10 Rows.streamRisesRow.domain false) (Rows.streamRisesSpec.post enc Try.prog Try.f10 false true false false) := by
  refine returnsInHanded_of_change (C := Try.checked) Try.own started (by kernel_rfl) Try.func10
    (ChangeSpec.witness6 (enc := enc) (C := Try.checked) false ⟨#[], #[.agg #[.slice none 0 0, .int .i64 0, .int .i64 0, .slice none 0 0]], []⟩ 8 (by kernel_rfl) (by kernel_rfl) (by kernel_rfl) (by kernel_rfl)) ?_
  intro W base args ds gs before hval hW hcnd _
  exact law_calls tabOK okDB10 Try.func10 (by kernel_rfl) (by kernel_rfl) (by kernel_rfl) (by kernel_rfl) Try.laidOut (tb := 4) (by kernel_rfl) (by kernel_rfl) rfl
    (fun ds h => by
      match ds, h with
      | [d0], _ => rfl) streamRisesLaw W base args ds gs before hval hW
theorem streamRises_holds : Rows.StreamRisesSaid :=
  OpenClaim.holds_of_wide 10 Try.f10 rfl rfl rfl rfl rfl rfl rfl ⟨rfl, rfl, rfl, rfl, rfl⟩ rfl rfl rfl rfl rfl (by kernel_rfl) Try.func10 (by kernel_rfl)
    (of_decide_eq_true (by kernel_rfl)) (by unfold Func.isWrapper; first | (rw [if_pos (by decide +kernel)]; kernel_rfl) | (rw [if_neg (by decide +kernel)]; exact ⟨rfl, rfl⟩))
    (fun os started H enc _ => streamRises_lifted os started H enc)
end Go.Proofs.Ytbplfgghcclgkaa
