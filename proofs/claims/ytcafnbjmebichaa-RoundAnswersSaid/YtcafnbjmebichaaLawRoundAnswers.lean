/- The statement Rows.RoundAnswersSaid: whatever the input, the law answers true and leaves its input as it was; no further conditions. -/
import Derived.Test.YtcafnbjmebichaaRows
import Derived.SizedLaws
import Derived.Test.YtcafnbjmebichaaD3pf
import Derived.Test.YtcafnbjmebichaaPb
import Derived.Test.YtcafnbjmebichaaP3i
open Go Go.VM
namespace Go.Proofs.Ytcafnbjmebichaa
open Go.RowKit Go.ChangeShapes
set_option maxRecDepth 100000
theorem Try.own : ownKnob Try.prog.godebug = none := by kernel_rfl
theorem Try.laidOut : laidOutB Try.prog = true := by kernel_rfl
theorem roundAnswersLaw (Vs : List V) (h : Ins T [29] Vs) : All (fun v => v = V.bool true) (DB3.run Vs [] fun v _ => .ret v) := by
  obtain ⟨v1, l2, rfl, hv3, h4⟩ := h.one
  cases h4.none
  obtain ⟨l5, rfl, h6⟩ := hv3.st' (fs := [3, 23, 26, 27]) (by kernel_rfl)
  obtain ⟨v7, l8, rfl, hv9, h10⟩ := h6.one
  obtain ⟨v11, l12, rfl, hv13, h14⟩ := h10.one
  obtain ⟨v15, l16, rfl, hv17, h18⟩ := h14.one
  obtain ⟨v19, l20, rfl, hv21, h22⟩ := h18.one
  cases h22.none
  obtain ⟨n23, rfl, r24⟩ := hv9.int' (k := .i64) (by kernel_rfl)
  obtain ⟨l25, rfl, h26⟩ := hv13.st' (fs := [3, 3, 3]) (by kernel_rfl)
  obtain ⟨v27, l28, rfl, hv29, h30⟩ := h26.one
  obtain ⟨v31, l32, rfl, hv33, h34⟩ := h30.one
  obtain ⟨v35, l36, rfl, hv37, h38⟩ := h34.one
  cases h38.none
  obtain ⟨n39, rfl, r40⟩ := hv29.int' (k := .i64) (by kernel_rfl)
  obtain ⟨n41, rfl, r42⟩ := hv33.int' (k := .i64) (by kernel_rfl)
  obtain ⟨n43, rfl, r44⟩ := hv37.int' (k := .i64) (by kernel_rfl)
  obtain ⟨l45, rfl, h46⟩ := hv17.st' (fs := [3, 24, 24]) (by kernel_rfl)
  obtain ⟨v47, l48, rfl, hv49, h50⟩ := h46.one
  obtain ⟨v51, l52, rfl, hv53, h54⟩ := h50.one
  obtain ⟨v55, l56, rfl, hv57, h58⟩ := h54.one
  cases h58.none
  obtain ⟨n59, rfl, r60⟩ := hv49.int' (k := .i64) (by kernel_rfl)
  obtain ⟨n61, f62, rfl, r63⟩ := hv53.slice'' (e := 3) (by kernel_rfl)
  obtain ⟨n64, f65, rfl, r66⟩ := hv57.slice'' (e := 3) (by kernel_rfl)
  obtain ⟨n67, f68, rfl, r69⟩ := hv21.slice'' (e := 50) (by kernel_rfl)
  rw [fq3_0]
  unfold Ds3_0
  exact roundP _ _ _ _ _ _ _ _ _ _ _ _ _ r40 r42 r44 r63.1 r66.1 rfl
theorem roundAnswers_lifted (os : Os) (started : os.Started) (H : Type) (enc : TypeId × Value → H) :
    ReturnsInHanded {} Try.checked os 3 .any (Rows.roundAnswersSpec.pre6 enc Try.prog Try.f3 Rows.roundAnswersRow.domain false) (Rows.roundAnswersSpec.post enc Try.prog Try.f3 false true false false) := by
  refine returnsInHanded_of_change_sized (C := Try.checked) Try.own started (by kernel_rfl) Try.func3
    (ChangeSpec.witness6 (enc := enc) (C := Try.checked) false ⟨#[], #[.agg #[.int .i64 0, .int .i64 0, .int .i64 0, .int .i64 0, .int .i64 0, .slice none 0 0, .slice none 0 0, .slice none 0 0]], []⟩ 8 (by kernel_rfl) (by kernel_rfl) (by kernel_rfl) (by kernel_rfl)) ?_
  intro W base args ds gs before hval hW hcnd hwt _
  exact law_calls tabOK (by kernel_rfl) okDB3 Try.func3 (by kernel_rfl) (by kernel_rfl) (by kernel_rfl) (by kernel_rfl) Try.laidOut (tb := 4) (by kernel_rfl) (by kernel_rfl) rfl
    (fun ds h => by
      match ds, h with
      | [d0], _ => rfl) roundAnswersLaw W base args ds gs before hval hW hwt
theorem roundAnswers_holds : Rows.RoundAnswersSaid :=
  OpenClaim.holds_of_wide 3 Try.f3 rfl rfl rfl rfl rfl rfl rfl ⟨rfl, rfl, rfl, rfl, rfl⟩ rfl rfl rfl rfl rfl (by kernel_rfl) Try.func3 (by kernel_rfl)
    (of_decide_eq_true (by kernel_rfl)) (by unfold Func.isWrapper; first | (rw [if_pos (by decide +kernel)]; kernel_rfl) | (rw [if_neg (by decide +kernel)]; exact ⟨rfl, rfl⟩))
    (fun os started H enc _ => roundAnswers_lifted os started H enc)
end Go.Proofs.Ytcafnbjmebichaa
