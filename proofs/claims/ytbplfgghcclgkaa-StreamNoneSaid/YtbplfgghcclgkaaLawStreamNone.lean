/- The statement Rows.StreamNoneSaid: at every input a nil stream answers as the law asks; no conditions. -/
import Derived.Test.YtbplfgghcclgkaaRows
import Derived.Test.YtbplfgghcclgkaaVmk
import Derived.Test.YtbplfgghcclgkaaVmD
open Go Go.VM
namespace Go.Proofs.Ytbplfgghcclgkaa
open Go.RowKit Go.ChangeShapes
set_option maxRecDepth 100000
theorem Try.own : ownKnob Try.prog.godebug = none := by kernel_rfl
theorem Try.laidOut : laidOutB Try.prog = true := by kernel_rfl
theorem noneV {β : Type} (K : V → List Reg → R β) (a b c d o1 o2 o3 o4 o5 : Int) (n : Nat) (f : Nat → V) :
  (R13 1000).run [.nd 79 [.int .i64 a, .int .i64 b, .int .i64 c, .int .i64 d, .nd 38 [.int .i64 o1, .int .i64 o2, .int .i64 o3, .int .i64 o4, .int .i64 o5], .view 53 n f]] [] K = K (.bool true) [] := by kernel_rfl
theorem noneLaw (Vs : List V) (h : Ins T [79] Vs) : All (fun v => v = V.bool true) ((R13 1000).run Vs [] fun v _ => .ret v) := by
  obtain ⟨v1, l2, rfl, hv3, h4⟩ := h.one
  cases h4.none
  obtain ⟨l5, rfl, h6⟩ := hv3.st' (fs := [3, 3, 3, 3, 38, 74]) (by kernel_rfl)
  obtain ⟨v7, l8, rfl, hv9, h10⟩ := h6.one
  obtain ⟨v11, l12, rfl, hv13, h14⟩ := h10.one
  obtain ⟨v15, l16, rfl, hv17, h18⟩ := h14.one
  obtain ⟨v19, l20, rfl, hv21, h22⟩ := h18.one
  obtain ⟨v23, l24, rfl, hv25, h26⟩ := h22.one
  obtain ⟨v27, l28, rfl, hv29, h30⟩ := h26.one
  cases h30.none
  obtain ⟨n31, rfl, r32⟩ := hv9.int' (k := .i64) (by kernel_rfl)
  obtain ⟨n33, rfl, r34⟩ := hv13.int' (k := .i64) (by kernel_rfl)
  obtain ⟨n35, rfl, r36⟩ := hv17.int' (k := .i64) (by kernel_rfl)
  obtain ⟨n37, rfl, r38⟩ := hv21.int' (k := .i64) (by kernel_rfl)
  obtain ⟨l39, rfl, h40⟩ := hv25.st' (fs := [3, 3, 3, 3, 3]) (by kernel_rfl)
  obtain ⟨v41, l42, rfl, hv43, h44⟩ := h40.one
  obtain ⟨v45, l46, rfl, hv47, h48⟩ := h44.one
  obtain ⟨v49, l50, rfl, hv51, h52⟩ := h48.one
  obtain ⟨v53, l54, rfl, hv55, h56⟩ := h52.one
  obtain ⟨v57, l58, rfl, hv59, h60⟩ := h56.one
  cases h60.none
  obtain ⟨n61, rfl, r62⟩ := hv43.int' (k := .i64) (by kernel_rfl)
  obtain ⟨n63, rfl, r64⟩ := hv47.int' (k := .i64) (by kernel_rfl)
  obtain ⟨n65, rfl, r66⟩ := hv51.int' (k := .i64) (by kernel_rfl)
  obtain ⟨n67, rfl, r68⟩ := hv55.int' (k := .i64) (by kernel_rfl)
  obtain ⟨n69, rfl, r70⟩ := hv59.int' (k := .i64) (by kernel_rfl)
  obtain ⟨n71, f72, rfl, r73⟩ := hv29.slice' (e := 53) (by kernel_rfl)
  rw [noneV]
  rfl
theorem streamNone_lifted (os : Os) (started : os.Started) (H : Type) (enc : TypeId × Value → H) :
    ReturnsInHanded {} Try.checked os 13 .any (Rows.streamNoneSpec.pre6 enc Try.prog Try.f13 Rows.streamNoneRow.domain false) (Rows.streamNoneSpec.post enc Try.prog Try.f13 false true false false) := by
  refine returnsInHanded_of_change (C := Try.checked) Try.own started (by kernel_rfl) Try.func13
    (ChangeSpec.witness6 (enc := enc) (C := Try.checked) false ⟨#[], #[.agg #[.int .i64 0, .int .i64 0, .int .i64 0, .int .i64 0, .int .i64 0, .int .i64 0, .int .i64 0, .int .i64 0, .int .i64 0, .slice none 0 0]], []⟩ 8 (by kernel_rfl) (by kernel_rfl) (by kernel_rfl) (by kernel_rfl)) ?_
  intro W base args ds gs before hval hW hcnd _
  exact law_calls tabOK (ok13 1000) Try.func13 (by kernel_rfl) (by kernel_rfl) (by kernel_rfl) (by kernel_rfl) Try.laidOut (tb := 4) (by kernel_rfl) (by kernel_rfl) rfl
    (fun ds h => by
      match ds, h with
      | [d], _ => rfl) noneLaw W base args ds gs before hval hW
theorem streamNone_holds : Rows.StreamNoneSaid :=
  OpenClaim.holds_of_wide 13 Try.f13 rfl rfl rfl rfl rfl rfl rfl ⟨rfl, rfl, rfl, rfl, rfl⟩ rfl rfl rfl rfl rfl (by kernel_rfl) Try.func13 (by kernel_rfl)
    (of_decide_eq_true (by kernel_rfl)) (by unfold Func.isWrapper; first | (rw [if_pos (by decide +kernel)]; kernel_rfl) | (rw [if_neg (by decide +kernel)]; exact ⟨rfl, rfl⟩))
    (fun os started H enc _ => streamNone_lifted os started H enc)
end Go.Proofs.Ytbplfgghcclgkaa
