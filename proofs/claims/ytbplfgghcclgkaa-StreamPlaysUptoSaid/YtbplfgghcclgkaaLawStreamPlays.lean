/- The statement Rows.StreamPlaysUptoSaid: where what it reads is of bulk at most 1048576, the law answers true and leaves its input as it was; no further conditions. -/
import Derived.Test.YtbplfgghcclgkaaRows
import Derived.JoinedCond
import Derived.Test.YtbplfgghcclgkaaD12pf
import Derived.Test.YtbplfgghcclgkaaPb
import Derived.Test.YtbplfgghcclgkaaPu
import Derived.Test.YtbplfgghcclgkaaP12x
open Go Go.VM
namespace Go.Proofs.Ytbplfgghcclgkaa
open Go.RowKit Go.ChangeShapes Go.WideShapes Go.ChangeAt
set_option maxRecDepth 100000
theorem Try.own : ownKnob Try.prog.godebug = none := by kernel_rfl
theorem Try.laidOut : laidOutB Try.prog = true := by kernel_rfl
theorem streamPlaysLaw (Vs : List V) (h : InsU T [73] Vs) : All (fun v => v = V.bool true) (DB12.run Vs [] fun v _ => .ret v) := by
  obtain ⟨v1, l2, rfl, hv3, h4⟩ := h.one
  cases h4.none
  obtain ⟨l5, rfl, h6⟩ := hv3.st' (fs := [22, 3, 3, 71]) (by kernel_rfl)
  obtain ⟨v7, l8, rfl, hv9, h10⟩ := h6.one
  obtain ⟨v11, l12, rfl, hv13, h14⟩ := h10.one
  obtain ⟨v15, l16, rfl, hv17, h18⟩ := h14.one
  obtain ⟨v19, l20, rfl, hv21, h22⟩ := h18.one
  cases h22.none
  obtain ⟨n23, f24, rfl, r25⟩ := hv9.slice'' (e := 3) (by kernel_rfl)
  obtain ⟨n26, rfl, r27⟩ := hv13.int' (k := .i64) (by kernel_rfl)
  obtain ⟨n28, rfl, r29⟩ := hv17.int' (k := .i64) (by kernel_rfl)
  obtain ⟨n30, f31, rfl, r32⟩ := hv21.slice'' (e := 79) (by kernel_rfl)
  rw [fq12_0]
  unfold Ds12_0
  refine playsP _ _ _ _ _ _ _ _ r32.1 (fun j hj => ?_) rfl
  have h := r32.2 j hj
  have part : ∀ (k u : Nat), [3, 3, 3, 3, 38, 74][k]? = some u → InU T u (partV (f31 j) k) := fun k u hk => h.part (by kernel_rfl) hk
  have op : ∀ (k u : Nat), [3, 3, 3, 3, 3][k]? = some u → InU T u (partV (partV (f31 j) 4) k) := fun k u hk => (part 4 38 rfl).part (by kernel_rfl) hk
  refine ⟨(part 1 3 rfl).inI (by kernel_rfl), (part 2 3 rfl).inI (by kernel_rfl), (op 2 3 rfl).inI (by kernel_rfl), (op 3 3 rfl).inI (by kernel_rfl), ?_⟩
  obtain ⟨n', f', e, hn, _⟩ := (part 5 74 rfl).slice'' (e := 53) (by kernel_rfl)
  rw [e]
  exact hn
theorem streamPlays_lifted (os : Os) (started : os.Started) (H : Type) (enc : TypeId × Value → H) (F : Stop.Interp) :
    ReturnsInHanded {} Try.checked os 12 .any ((Rows.OpenSpec.upto Rows.streamPlaysSpec).pre6 enc Try.prog Try.f12 Rows.streamPlaysUptoRow.domain false) (((Rows.OpenSpec.upto Rows.streamPlaysSpec).at F).post enc Try.prog Try.f12 false true false false) := by
  refine returnsInHanded_of_cond (C := Try.checked) (s := Rows.OpenSpec.upto Rows.streamPlaysSpec) (k := Rows.uptoSmall) rfl Try.own started (by kernel_rfl) Try.func12
    (OpenSpec.witness (enc := enc) (C := Try.checked) (s := Rows.OpenSpec.upto Rows.streamPlaysSpec) (k := Rows.uptoSmall) rfl false ⟨#[], #[.agg #[.slice none 0 0, .int .i64 0, .int .i64 0, .slice none 0 0]], []⟩ 8 (by kernel_rfl) (by kernel_rfl) (by kernel_rfl)
      (x := ([.agg [.nil, .lit (.int .i64 0), .lit (.int .i64 0), .nil]], [], [])) (by kernel_rfl) rfl (by kernel_rfl)) ?_
  intro W base args ds gs before hval hW _ hk _
  exact law_callsU tabOK okDB12 Try.func12 (by kernel_rfl) (by kernel_rfl) (by kernel_rfl) (by kernel_rfl) Try.laidOut (tb := 4) (by kernel_rfl) (by kernel_rfl) rfl
    (fun ds h => by
      match ds, h with
      | [d0], _ => rfl) streamPlaysLaw W base args ds gs before hval hW hk
theorem streamPlays_holds : Rows.StreamPlaysUptoSaid :=
  OpenClaim.holds_of_cond 12 Try.f12 rfl rfl rfl rfl rfl rfl rfl ⟨rfl, rfl, rfl, rfl, rfl⟩ rfl rfl rfl rfl rfl (by kernel_rfl) Try.func12 (by kernel_rfl)
    (of_decide_eq_true (by kernel_rfl)) (by unfold Func.isWrapper; first | (rw [if_pos (by decide +kernel)]; kernel_rfl) | (rw [if_neg (by decide +kernel)]; exact ⟨rfl, rfl⟩))
    (fun os started H enc _ F => streamPlays_lifted os started H enc F)
end Go.Proofs.Ytbplfgghcclgkaa
