/- The statement Rows.StreamRestoresUptoSaid: where what it reads is of bulk at most 1048576, the law answers true and leaves its input as it was; no further conditions. -/
import Derived.Test.YtbplfgghcclgkaaRows
import Derived.JoinedCond
import Derived.Test.YtbplfgghcclgkaaD14pf
import Derived.Test.YtbplfgghcclgkaaPb
import Derived.Test.YtbplfgghcclgkaaPu
import Derived.Test.YtbplfgghcclgkaaP14D
open Go Go.VM
namespace Go.Proofs.Ytbplfgghcclgkaa
open Go.RowKit Go.ChangeShapes Go.WideShapes Go.ChangeAt
set_option maxRecDepth 100000
theorem Try.own : ownKnob Try.prog.godebug = none := by kernel_rfl
theorem Try.laidOut : laidOutB Try.prog = true := by kernel_rfl
theorem streamRestoresLaw (Vs : List V) (h : InsU T [112, 71] Vs) : All (fun v => v = V.bool true) (DB14.run Vs [] fun v _ => .ret v) := by
  obtain ⟨v1, l2, rfl, hv3, h4⟩ := h.one
  obtain ⟨v5, l6, rfl, hv7, h8⟩ := h4.one
  cases h8.none
  obtain ⟨l9, rfl, h10⟩ := hv3.st' (fs := [73, 3, 38, 36, 74]) (by kernel_rfl)
  obtain ⟨v11, l12, rfl, hv13, h14⟩ := h10.one
  obtain ⟨v15, l16, rfl, hv17, h18⟩ := h14.one
  obtain ⟨v19, l20, rfl, hv21, h22⟩ := h18.one
  obtain ⟨v23, l24, rfl, hv25, h26⟩ := h22.one
  obtain ⟨v27, l28, rfl, hv29, h30⟩ := h26.one
  cases h30.none
  obtain ⟨l31, rfl, h32⟩ := hv13.st' (fs := [22, 3, 3, 71]) (by kernel_rfl)
  obtain ⟨v33, l34, rfl, hv35, h36⟩ := h32.one
  obtain ⟨v37, l38, rfl, hv39, h40⟩ := h36.one
  obtain ⟨v41, l42, rfl, hv43, h44⟩ := h40.one
  obtain ⟨v45, l46, rfl, hv47, h48⟩ := h44.one
  cases h48.none
  obtain ⟨n49, f50, rfl, r51⟩ := hv35.slice'' (e := 3) (by kernel_rfl)
  obtain ⟨n52, rfl, r53⟩ := hv39.int' (k := .i64) (by kernel_rfl)
  obtain ⟨n54, rfl, r55⟩ := hv43.int' (k := .i64) (by kernel_rfl)
  obtain ⟨n56, f57, rfl, r58⟩ := hv47.slice'' (e := 79) (by kernel_rfl)
  obtain ⟨n59, rfl, r60⟩ := hv17.int' (k := .i64) (by kernel_rfl)
  obtain ⟨l61, rfl, h62⟩ := hv21.st' (fs := [3, 3, 3, 3, 3]) (by kernel_rfl)
  obtain ⟨v63, l64, rfl, hv65, h66⟩ := h62.one
  obtain ⟨v67, l68, rfl, hv69, h70⟩ := h66.one
  obtain ⟨v71, l72, rfl, hv73, h74⟩ := h70.one
  obtain ⟨v75, l76, rfl, hv77, h78⟩ := h74.one
  obtain ⟨v79, l80, rfl, hv81, h82⟩ := h78.one
  cases h82.none
  obtain ⟨n83, rfl, r84⟩ := hv65.int' (k := .i64) (by kernel_rfl)
  obtain ⟨n85, rfl, r86⟩ := hv69.int' (k := .i64) (by kernel_rfl)
  obtain ⟨n87, rfl, r88⟩ := hv73.int' (k := .i64) (by kernel_rfl)
  obtain ⟨n89, rfl, r90⟩ := hv77.int' (k := .i64) (by kernel_rfl)
  obtain ⟨n91, rfl, r92⟩ := hv81.int' (k := .i64) (by kernel_rfl)
  obtain ⟨n93, f94, rfl, r95⟩ := hv25.slice'' (e := 38) (by kernel_rfl)
  obtain ⟨n96, f97, rfl, r98⟩ := hv29.slice'' (e := 53) (by kernel_rfl)
  obtain ⟨n99, f100, rfl, r101⟩ := hv7.slice'' (e := 79) (by kernel_rfl)
  rw [fq14_0]
  unfold Ds14_0
  have calls : ∀ (n : Nat) (f : Nat → V), (∀ i, i < n → InU T 79 (f i)) → okCalls n f := fun n f hf j hj => by
    have h := hf j hj
    have part : ∀ (k u : Nat), [3, 3, 3, 3, 38, 74][k]? = some u → InU T u (partV (f j) k) := fun k u hk => h.part (by kernel_rfl) hk
    have op : ∀ (k u : Nat), [3, 3, 3, 3, 3][k]? = some u → InU T u (partV (partV (f j) 4) k) := fun k u hk => (part 4 38 rfl).part (by kernel_rfl) hk
    refine ⟨(part 1 3 rfl).inI (by kernel_rfl), (part 2 3 rfl).inI (by kernel_rfl), (op 2 3 rfl).inI (by kernel_rfl), (op 3 3 rfl).inI (by kernel_rfl), ?_⟩
    obtain ⟨n', f', e, hn, _⟩ := (part 5 74 rfl).slice'' (e := 53) (by kernel_rfl)
    rw [e]
    exact hn
  exact restP _ _ _ _ _ _ _ _ _ _ _ _ _ _ _ _ _ _ _ _ r58.1 (calls _ _ r58.2) (calls _ _ r101.2) rfl
theorem streamRestores_lifted (os : Os) (started : os.Started) (H : Type) (enc : TypeId × Value → H) (F : Stop.Interp) :
    ReturnsInHanded {} Try.checked os 14 .any ((Rows.OpenSpec.upto Rows.streamRestoresSpec).pre6 enc Try.prog Try.f14 Rows.streamRestoresUptoRow.domain false) (((Rows.OpenSpec.upto Rows.streamRestoresSpec).at F).post enc Try.prog Try.f14 false true false false) := by
  refine returnsInHanded_of_cond (C := Try.checked) (s := Rows.OpenSpec.upto Rows.streamRestoresSpec) (k := Rows.uptoSmall) rfl Try.own started (by kernel_rfl) Try.func14
    (OpenSpec.witness (enc := enc) (C := Try.checked) (s := Rows.OpenSpec.upto Rows.streamRestoresSpec) (k := Rows.uptoSmall) rfl false ⟨#[], #[.agg #[.slice none 0 0, .int .i64 0, .int .i64 0, .slice none 0 0, .int .i64 0, .int .i64 0, .int .i64 0, .int .i64 0, .int .i64 0, .int .i64 0, .slice none 0 0, .slice none 0 0], .slice none 0 0], []⟩ 8 (by kernel_rfl) (by kernel_rfl) (by kernel_rfl)
      (x := ([.agg [.agg [.nil, .lit (.int .i64 0), .lit (.int .i64 0), .nil], .lit (.int .i64 0), .agg [.lit (.int .i64 0), .lit (.int .i64 0), .lit (.int .i64 0), .lit (.int .i64 0), .lit (.int .i64 0)], .nil, .nil], .nil], [], [])) (by kernel_rfl) rfl (by kernel_rfl)) ?_
  intro W base args ds gs before hval hW _ hk _
  exact law_callsU tabOK okDB14 Try.func14 (by kernel_rfl) (by kernel_rfl) (by kernel_rfl) (by kernel_rfl) Try.laidOut (tb := 4) (by kernel_rfl) (by kernel_rfl) rfl
    (fun ds h => by
      match ds, h with
      | [d0, d1], _ => rfl) streamRestoresLaw W base args ds gs before hval hW hk
theorem streamRestores_holds : Rows.StreamRestoresUptoSaid :=
  OpenClaim.holds_of_cond 14 Try.f14 rfl rfl rfl rfl rfl rfl rfl ⟨rfl, rfl, rfl, rfl, rfl⟩ rfl rfl rfl rfl rfl (by kernel_rfl) Try.func14 (by kernel_rfl)
    (of_decide_eq_true (by kernel_rfl)) (by unfold Func.isWrapper; first | (rw [if_pos (by decide +kernel)]; kernel_rfl) | (rw [if_neg (by decide +kernel)]; exact ⟨rfl, rfl⟩))
    (fun os started H enc _ F => streamRestores_lifted os started H enc F)
end Go.Proofs.Ytbplfgghcclgkaa
