/- The statement Rows.SpringNoneSaid: at every input a nil stream answers as the law asks; no conditions. -/
import Derived.Test.YtmjbjhhfjnbohaaRows
import Derived.Test.YtmjbjhhfjnbohaaVmk
import Derived.Test.YtmjbjhhfjnbohaaVmD
open Go Go.VM
namespace Go.Proofs.Ytmjbjhhfjnbohaa
open Go.RowKit Go.ChangeShapes
set_option maxRecDepth 100000
theorem Try.own : ownKnob Try.prog.godebug = none := by kernel_rfl
theorem Try.laidOut : laidOutB Try.prog = true := by kernel_rfl
theorem noneV {β : Type} (K : V → List Reg → R β) (a b c : Int) (n1 n2 n3 : Nat) (f1 f2 f3 : Nat → V) : R9.run [.nd 97 [.int .i64 a, .int .i64 b, .int .i64 c, .view 3 n1 f1, .view 100 n2 f2, .view 158 n3 f3]] [] K = bothR (K (.bool true) []) (bothR (K (.bool true) []) (K (.bool true) [])) := by kernel_rfl
theorem noneLaw (Vs : List V) (h : Ins T [97] Vs) : All (fun v => v = V.bool true) (R9.run Vs [] fun v _ => .ret v) := by
  obtain ⟨v1, l2, rfl, hv3, h4⟩ := h.one
  cases h4.none
  obtain ⟨l5, rfl, h6⟩ := hv3.st' (fs := [3, 3, 3, 24, 95, 92]) (by kernel_rfl)
  obtain ⟨v7, l8, rfl, hv9, h10⟩ := h6.one
  obtain ⟨v11, l12, rfl, hv13, h14⟩ := h10.one
  obtain ⟨v15, l16, rfl, hv17, h18⟩ := h14.one
  obtain ⟨v19, l20, rfl, hv21, h22⟩ := h18.one
  obtain ⟨v23, l24, rfl, hv25, h26⟩ := h22.one
  obtain ⟨v27, l28, rfl, hv29, h30⟩ := h26.one
  cases h30.none
  obtain ⟨n31, rfl, r32⟩ := hv9.int' (k := .i64) (by kernel_rfl)
  obtain ⟨n33, rfl, r34⟩ := hv13.int' (k := .i64) (by kernel_rfl)
  obtain ⟨n35, rfl, r36⟩ := hv17.int' (k := .i64) (by kernel_rfl)
  obtain ⟨n37, f38, rfl, r39⟩ := hv21.slice' (e := 3) (by kernel_rfl)
  obtain ⟨n40, f41, rfl, r42⟩ := hv25.slice' (e := 100) (by kernel_rfl)
  obtain ⟨n43, f44, rfl, r45⟩ := hv29.slice' (e := 158) (by kernel_rfl)
  rw [noneV]
  exact all_bothR rfl (all_bothR rfl rfl)
theorem springNone_lifted (os : Os) (started : os.Started) (H : Type) (enc : TypeId × Value → H) :
    ReturnsInHanded {} Try.checked os 9 .any (Rows.springNoneSpec.pre6 enc Try.prog Try.f9 Rows.springNoneRow.domain false) (Rows.springNoneSpec.post enc Try.prog Try.f9 false true false false) := by
  refine returnsInHanded_of_change (C := Try.checked) Try.own started (by kernel_rfl) Try.func9
    (ChangeSpec.witness6 (enc := enc) (C := Try.checked) false ⟨#[], #[.agg #[.int .i64 0, .int .i64 0, .int .i64 0, .slice none 0 0, .slice none 0 0, .slice none 0 0]], []⟩ 8 (by kernel_rfl) (by kernel_rfl) (by kernel_rfl) (by kernel_rfl)) ?_
  intro W base args ds gs before hval hW hcnd _
  exact law_calls tabOK ok9 Try.func9 (by kernel_rfl) (by kernel_rfl) (by kernel_rfl) (by kernel_rfl) Try.laidOut (tb := 4) (by kernel_rfl) (by kernel_rfl) rfl
    (fun ds h => by
      match ds, h with
      | [d], _ => rfl) noneLaw W base args ds gs before hval hW
theorem springNone_holds : Rows.SpringNoneSaid :=
  OpenClaim.holds_of_wide 9 Try.f9 rfl rfl rfl rfl rfl rfl rfl ⟨rfl, rfl, rfl, rfl, rfl⟩ rfl rfl rfl rfl rfl (by kernel_rfl) Try.func9 (by kernel_rfl)
    (of_decide_eq_true (by kernel_rfl)) (by unfold Func.isWrapper; first | (rw [if_pos (by decide +kernel)]; kernel_rfl) | (rw [if_neg (by decide +kernel)]; exact ⟨rfl, rfl⟩))
    (fun os started H enc _ => springNone_lifted os started H enc)
end Go.Proofs.Ytmjbjhhfjnbohaa
