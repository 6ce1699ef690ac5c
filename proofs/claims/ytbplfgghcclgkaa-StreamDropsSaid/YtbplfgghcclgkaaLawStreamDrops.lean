/- The statement Rows.StreamDropsSaid: whatever the input, the law answers true and leaves its input as it was; no further conditions. -/
import Derived.Test.YtbplfgghcclgkaaRows
import Derived.Test.YtbplfgghcclgkaaD8pf
import Derived.Test.YtbplfgghcclgkaaPd
open Go Go.VM
namespace Go.Proofs.Ytbplfgghcclgkaa
open Go.RowKit Go.ChangeShapes
set_option maxRecDepth 100000
theorem Try.own : ownKnob Try.prog.godebug = none := by kernel_rfl
theorem Try.laidOut : laidOutB Try.prog = true := by kernel_rfl
theorem streamDropsLaw (Vs : List V) (h : Ins T [73, 74] Vs) : All (fun v => v = V.bool true) (DB8.run Vs [] fun v _ => .ret v) := by
  obtain ⟨v1, l2, rfl, hv3, h4⟩ := h.one
  obtain ⟨v5, l6, rfl, hv7, h8⟩ := h4.one
  cases h8.none
  obtain ⟨l9, rfl, h10⟩ := hv3.st' (fs := [22, 3, 3, 71]) (by kernel_rfl)
  obtain ⟨v11, l12, rfl, hv13, h14⟩ := h10.one
  obtain ⟨v15, l16, rfl, hv17, h18⟩ := h14.one
  obtain ⟨v19, l20, rfl, hv21, h22⟩ := h18.one
  obtain ⟨v23, l24, rfl, hv25, h26⟩ := h22.one
  cases h26.none
  obtain ⟨n27, f28, rfl, r29⟩ := hv13.slice' (e := 3) (by kernel_rfl)
  obtain ⟨n30, rfl, r31⟩ := hv17.int' (k := .i64) (by kernel_rfl)
  obtain ⟨n32, rfl, r33⟩ := hv21.int' (k := .i64) (by kernel_rfl)
  obtain ⟨n34, f35, rfl, r36⟩ := hv25.slice' (e := 79) (by kernel_rfl)
  obtain ⟨n37, f38, rfl, r39⟩ := hv7.slice' (e := 53) (by kernel_rfl)
  rw [fq8_0]
  have hT (k : Nat) (hk : [3, 3, 3, 3, 38, 74][k]? = some 3) : ∀ i, i < n34 → inI (intV (partV (f35 i) k)) := fun i hi => ((r36.2 i hi).part (fs := [3, 3, 3, 3, 38, 74]) (u := 3) (k := k) (by kernel_rfl) hk).inI (by kernel_rfl)
  have hP (k : Nat) (hk : [3, 3][k]? = some 3) : ∀ i, i < n37 → inI (intV (partV (f38 i) k)) := fun i hi => ((r39.2 i hi).part (fs := [3, 3]) (u := 3) (k := k) (by kernel_rfl) hk).inI (by kernel_rfl)
  exact dropsP _ _ _ _ _ _ _ _ _ _ _ (by have := r36.1; simp only [maxLen] at this; omega) (fun i hi => ⟨hT 1 rfl i hi, hT 2 rfl i hi⟩) (fun i hi => ⟨hP 0 rfl i hi, hP 1 rfl i hi⟩) rfl rfl
theorem streamDrops_lifted (os : Os) (started : os.Started) (H : Type) (enc : TypeId × Value → H) :
    ReturnsInHanded {} Try.checked os 8 .any (Rows.streamDropsSpec.pre6 enc Try.prog Try.f8 Rows.streamDropsRow.domain false) (Rows.streamDropsSpec.post enc Try.prog Try.f8 false true false false) := by
  refine returnsInHanded_of_change (C := Try.checked) Try.own started (by kernel_rfl) Try.func8
    (ChangeSpec.witness6 (enc := enc) (C := Try.checked) false ⟨#[], #[.agg #[.slice none 0 0, .int .i64 0, .int .i64 0, .slice none 0 0], .slice none 0 0], []⟩ 8 (by kernel_rfl) (by kernel_rfl) (by kernel_rfl) (by kernel_rfl)) ?_
  intro W base args ds gs before hval hW hcnd _
  exact law_calls tabOK okDB8 Try.func8 (by kernel_rfl) (by kernel_rfl) (by kernel_rfl) (by kernel_rfl) Try.laidOut (tb := 4) (by kernel_rfl) (by kernel_rfl) rfl
    (fun ds h => by
      match ds, h with
      | [d0, d1], _ => rfl) streamDropsLaw W base args ds gs before hval hW
theorem streamDrops_holds : Rows.StreamDropsSaid :=
  OpenClaim.holds_of_wide 8 Try.f8 rfl rfl rfl rfl rfl rfl rfl ⟨rfl, rfl, rfl, rfl, rfl⟩ rfl rfl rfl rfl rfl (by kernel_rfl) Try.func8 (by kernel_rfl)
    (of_decide_eq_true (by kernel_rfl)) (by unfold Func.isWrapper; first | (rw [if_pos (by decide +kernel)]; kernel_rfl) | (rw [if_neg (by decide +kernel)]; exact ⟨rfl, rfl⟩))
    (fun os started H enc _ => streamDrops_lifted os started H enc)
end Go.Proofs.Ytbplfgghcclgkaa
