/- The statement Rows.RoundNoneSaid: at every input a nil round answers as the law asks; no conditions. -/
import Derived.Test.YtcafnbjmebichaaRows
import Derived.Test.YtcafnbjmebichaaVmk
import Derived.Test.YtcafnbjmebichaaVmD
import Derived.Test.YtcafnbjmebichaaEqRoundNone
open Go Go.VM
namespace Go.Proofs.Ytcafnbjmebichaa
open Go.RowKit Go.ChangeShapes
set_option maxRecDepth 100000
theorem Try.own : ownKnob Try.prog.godebug = none := by kernel_rfl
theorem Try.laidOut : laidOutB Try.prog = true := by kernel_rfl
theorem theLaw (Vs : List V) (h : Ins T [3, 23] Vs) : All (fun v => v = V.bool true) (R4.run Vs [] fun v _ => .ret v) := by
  obtain ⟨v1, l2, rfl, hv3, h4⟩ := h.one
  obtain ⟨v5, l6, rfl, hv7, h8⟩ := h4.one
  cases h8.none
  obtain ⟨n9, rfl, r10⟩ := hv3.int' (k := .i64) (by kernel_rfl)
  obtain ⟨l11, rfl, h12⟩ := hv7.st' (fs := [3, 3, 3]) (by kernel_rfl)
  obtain ⟨v13, l14, rfl, hv15, h16⟩ := h12.one
  obtain ⟨v17, l18, rfl, hv19, h20⟩ := h16.one
  obtain ⟨v21, l22, rfl, hv23, h24⟩ := h20.one
  cases h24.none
  obtain ⟨n25, rfl, r26⟩ := hv15.int' (k := .i64) (by kernel_rfl)
  obtain ⟨n27, rfl, r28⟩ := hv19.int' (k := .i64) (by kernel_rfl)
  obtain ⟨n29, rfl, r30⟩ := hv23.int' (k := .i64) (by kernel_rfl)
  rw [noneV]
  exact rfl
theorem roundNone_lifted (os : Os) (started : os.Started) (H : Type) (enc : TypeId × Value → H) :
    ReturnsInHanded {} Try.checked os 4 .any (Rows.roundNoneSpec.pre6 enc Try.prog Try.f4 Rows.roundNoneRow.domain false) (Rows.roundNoneSpec.post enc Try.prog Try.f4 false true false false) := by
  refine returnsInHanded_of_change (C := Try.checked) Try.own started (by kernel_rfl) Try.func4
    (ChangeSpec.witness6 (enc := enc) (C := Try.checked) false ⟨#[], #[.int .i64 0, .agg #[.int .i64 0, .int .i64 0, .int .i64 0]], []⟩ 8 (by kernel_rfl) (by kernel_rfl) (by kernel_rfl) (by kernel_rfl)) ?_
  intro W base args ds gs before hval hW hcnd _
  exact law_calls tabOK ok4 Try.func4 (by kernel_rfl) (by kernel_rfl) (by kernel_rfl) (by kernel_rfl) Try.laidOut (tb := 4) (by kernel_rfl) (by kernel_rfl) rfl
    (fun ds h => by
      match ds, h with
      | [d1, d2], _ => rfl) theLaw W base args ds gs before hval hW
theorem roundNone_holds : Rows.RoundNoneSaid :=
  OpenClaim.holds_of_wide 4 Try.f4 rfl rfl rfl rfl rfl rfl rfl ⟨rfl, rfl, rfl, rfl, rfl⟩ rfl rfl rfl rfl rfl (by kernel_rfl) Try.func4 (by kernel_rfl)
    (of_decide_eq_true (by kernel_rfl)) (by unfold Func.isWrapper; first | (rw [if_pos (by decide +kernel)]; kernel_rfl) | (rw [if_neg (by decide +kernel)]; exact ⟨rfl, rfl⟩))
    (fun os started H enc _ => roundNone_lifted os started H enc)
end Go.Proofs.Ytcafnbjmebichaa
