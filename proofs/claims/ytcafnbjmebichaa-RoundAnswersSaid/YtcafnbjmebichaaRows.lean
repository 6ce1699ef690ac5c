/-
  No cell of these rows narrows 'for every input' (looked for: loops, veiled, ifaces, maps, wideKeys, modest, calm, conditions, laid).
  DERIVED. THE GIVEN ROWS OF THIS SEAT. 7 by the template 'for every input the law returns true; each argument reads behind the call as it read before'; 0 by the template 'total and deterministic' (their statements: YtcafnbjmebichaaTotals.lean).
  GIVEN WITH THE SEED: the statements are not yours to turn. If you find one false, say at which input.
  Laid BY PROGRAM, IN A SANDBOX (cutbox-rows.mjs): the forced cells as the released guide's own fill.sh prints them over the translation 6ebf0067527b8ce9… (all of the seat's roots in one cut). By AI agents, Wed Nov 11 2026. No macro, syntax, notation, axiom, sorry.
-/
import Derived.Test.YtcafnbjmebichaaChecked
import GoSem.Claim
import GoSem.ClaimJoined
import GoSem.ClaimMapViews
import Derived.JoinedTies
import Derived.KernelRfl
namespace Go.Proofs.Ytcafnbjmebichaa
/- THE CELL 'sum', in the pinned program and in every row, IS THE sha256 OF THE DUMP (.gsa) THAT YtcafnbjmebichaaProg.lean LOADS. Nothing in Lean hashes anything: it is a label: what it is worth is what the hold of that sum in a sandbox is worth. -/
noncomputable def Try.pinned : Pinned := { name := "ytcafnbjmebichaa", sum := "6ebf0067527b8ce902fcb687b8d9522a5b98d89c6e97e13975a7840ef2ccfc9a", checked := Try.checked }
namespace Rows
def none {H : Type} : Left H := { results := [], args := [] }

/-- 'estuarylaw11.RoundAnswers': WHATEVER THE INPUT: true; the input reads as it did. -/
def roundAnswersSpec : ChangeSpec := { name := "roundAnswers", fn := fun _ => fun
  | [d] => { results := [.lit (.bool true)], args := [d] }
  | _ => none }
def roundAnswersRow : OpenClaim := { program := "ytcafnbjmebichaa", sum := "6ebf0067527b8ce902fcb687b8d9522a5b98d89c6e97e13975a7840ef2ccfc9a", func := "estuary/estuarylaw11.RoundAnswers", spec := "roundAnswers", unfollowed := true, recurses := true, plainKeys := false, apart := false }
def RoundAnswersSaid : Prop := roundAnswersRow.holds Try.pinned (OpenSpec.ofChange roundAnswersSpec)

/-- ITS FALSE NEIGHBOUR: 'it returns false'. Refute it at one input. -/
def roundAnswersWrong : ChangeSpec := { name := "roundAnswers", fn := fun _ => fun
  | [d] => { results := [.lit (.bool false)], args := [d] }
  | _ => none }
def RoundAnswersWrongFalsely : Prop := roundAnswersRow.holds Try.pinned (OpenSpec.ofChange roundAnswersWrong)

/-- 'estuarylaw11.RoundNone': WHATEVER THE INPUT: true; the input reads as it did. -/
def roundNoneSpec : ChangeSpec := { name := "roundNone", fn := fun _ => fun
  | [d1, d2] => { results := [.lit (.bool true)], args := [d1, d2] }
  | _ => none }
def roundNoneRow : OpenClaim := { program := "ytcafnbjmebichaa", sum := "6ebf0067527b8ce902fcb687b8d9522a5b98d89c6e97e13975a7840ef2ccfc9a", func := "estuary/estuarylaw11.RoundNone", spec := "roundNone", unfollowed := true, recurses := true, plainKeys := false, apart := false }
def RoundNoneSaid : Prop := roundNoneRow.holds Try.pinned (OpenSpec.ofChange roundNoneSpec)

/-- ITS FALSE NEIGHBOUR: 'it returns false'. Refute it at one input. -/
def roundNoneWrong : ChangeSpec := { name := "roundNone", fn := fun _ => fun
  | [d1, d2] => { results := [.lit (.bool false)], args := [d1, d2] }
  | _ => none }
def RoundNoneWrongFalsely : Prop := roundNoneRow.holds Try.pinned (OpenSpec.ofChange roundNoneWrong)

/-- 'estuarylaw11.RoundDeaf': WHATEVER THE INPUT: true; the input reads as it did. -/
def roundDeafSpec : ChangeSpec := { name := "roundDeaf", fn := fun _ => fun
  | [d] => { results := [.lit (.bool true)], args := [d] }
  | _ => none }
def roundDeafRow : OpenClaim := { program := "ytcafnbjmebichaa", sum := "6ebf0067527b8ce902fcb687b8d9522a5b98d89c6e97e13975a7840ef2ccfc9a", func := "estuary/estuarylaw11.RoundDeaf", spec := "roundDeaf", unfollowed := true, recurses := true, plainKeys := false, apart := false }
def RoundDeafSaid : Prop := roundDeafRow.holds Try.pinned (OpenSpec.ofChange roundDeafSpec)

/-- ITS FALSE NEIGHBOUR: 'it returns false'. Refute it at one input. -/
def roundDeafWrong : ChangeSpec := { name := "roundDeaf", fn := fun _ => fun
  | [d] => { results := [.lit (.bool false)], args := [d] }
  | _ => none }
def RoundDeafWrongFalsely : Prop := roundDeafRow.holds Try.pinned (OpenSpec.ofChange roundDeafWrong)

/-- 'estuarylaw11.RoundChains': WHATEVER THE INPUT: true; the input reads as it did. -/
def roundChainsSpec : ChangeSpec := { name := "roundChains", fn := fun _ => fun
  | [d1, d2] => { results := [.lit (.bool true)], args := [d1, d2] }
  | _ => none }
def roundChainsRow : OpenClaim := { program := "ytcafnbjmebichaa", sum := "6ebf0067527b8ce902fcb687b8d9522a5b98d89c6e97e13975a7840ef2ccfc9a", func := "estuary/estuarylaw11.RoundChains", spec := "roundChains", unfollowed := true, recurses := true, plainKeys := false, apart := false }
def RoundChainsSaid : Prop := roundChainsRow.holds Try.pinned (OpenSpec.ofChange roundChainsSpec)

/-- ITS FALSE NEIGHBOUR: 'it returns false'. Refute it at one input. -/
def roundChainsWrong : ChangeSpec := { name := "roundChains", fn := fun _ => fun
  | [d1, d2] => { results := [.lit (.bool false)], args := [d1, d2] }
  | _ => none }
def RoundChainsWrongFalsely : Prop := roundChainsRow.holds Try.pinned (OpenSpec.ofChange roundChainsWrong)

/-- 'estuarylaw11.RoundOnce': WHATEVER THE INPUT: true; the input reads as it did. -/
def roundOnceSpec : ChangeSpec := { name := "roundOnce", fn := fun _ => fun
  | [d1, d2] => { results := [.lit (.bool true)], args := [d1, d2] }
  | _ => none }
def roundOnceRow : OpenClaim := { program := "ytcafnbjmebichaa", sum := "6ebf0067527b8ce902fcb687b8d9522a5b98d89c6e97e13975a7840ef2ccfc9a", func := "estuary/estuarylaw11.RoundOnce", spec := "roundOnce", unfollowed := true, recurses := true, plainKeys := false, apart := false }
def RoundOnceSaid : Prop := roundOnceRow.holds Try.pinned (OpenSpec.ofChange roundOnceSpec)

/-- ITS FALSE NEIGHBOUR: 'it returns false'. Refute it at one input. -/
def roundOnceWrong : ChangeSpec := { name := "roundOnce", fn := fun _ => fun
  | [d1, d2] => { results := [.lit (.bool false)], args := [d1, d2] }
  | _ => none }
def RoundOnceWrongFalsely : Prop := roundOnceRow.holds Try.pinned (OpenSpec.ofChange roundOnceWrong)

/-- 'estuarylaw16.BasinNone': WHATEVER THE INPUT: true; the input reads as it did. -/
def basinNoneSpec : ChangeSpec := { name := "basinNone", fn := fun _ => fun
  | [d1, d2] => { results := [.lit (.bool true)], args := [d1, d2] }
  | _ => none }
def basinNoneRow : OpenClaim := { program := "ytcafnbjmebichaa", sum := "6ebf0067527b8ce902fcb687b8d9522a5b98d89c6e97e13975a7840ef2ccfc9a", func := "estuary/estuarylaw16.BasinNone", spec := "basinNone", inPlace := ["math/bits.Add64"], unfollowed := true, recurses := true, plainKeys := false, apart := false }
def BasinNoneSaid : Prop := basinNoneRow.holds Try.pinned (OpenSpec.ofChange basinNoneSpec)

/-- ITS FALSE NEIGHBOUR: 'it returns false'. Refute it at one input. -/
def basinNoneWrong : ChangeSpec := { name := "basinNone", fn := fun _ => fun
  | [d1, d2] => { results := [.lit (.bool false)], args := [d1, d2] }
  | _ => none }
def BasinNoneWrongFalsely : Prop := basinNoneRow.holds Try.pinned (OpenSpec.ofChange basinNoneWrong)

/-- 'estuarylaw17.GateBack': WHATEVER THE INPUT: true; the input reads as it did. -/
def gateBackSpec : ChangeSpec := { name := "gateBack", fn := fun _ => fun
  | [d1, d2, d3] => { results := [.lit (.bool true)], args := [d1, d2, d3] }
  | _ => none }
def gateBackRow : OpenClaim := { program := "ytcafnbjmebichaa", sum := "6ebf0067527b8ce902fcb687b8d9522a5b98d89c6e97e13975a7840ef2ccfc9a", func := "estuary/estuarylaw17.GateBack", spec := "gateBack", inPlace := ["math/bits.Add64"], unfollowed := true, recurses := true, plainKeys := false, apart := false }
def GateBackSaid : Prop := gateBackRow.holds Try.pinned (OpenSpec.ofChange gateBackSpec)

/-- ITS FALSE NEIGHBOUR: 'it returns false'. Refute it at one input. -/
def gateBackWrong : ChangeSpec := { name := "gateBack", fn := fun _ => fun
  | [d1, d2, d3] => { results := [.lit (.bool false)], args := [d1, d2, d3] }
  | _ => none }
def GateBackWrongFalsely : Prop := gateBackRow.holds Try.pinned (OpenSpec.ofChange gateBackWrong)

/- THE SECOND FORM. 'bulk': how many values and letters a reading holds, each counted each time it is reached (what is shared counts as often as it is met; a slice's spare places count too). A statement '..UptoSaid' is the law's where the arguments, and the package variables that the reading takes, are together of bulk at most 1048576: NARROWER than '..Said'. Prove '..Said' where nothing that the law and all that it calls make is longer than what came in: it says more and counts as full. Else prove '..UptoSaid'. A law counts once. -/
mutual
def uptoBulk {H : Type} : DataW H → Nat
  | .lit (.string bytes) => bytes.length + 1
  | .lit _ => 1
  | .nil => 1
  | .ptr d => uptoBulk d + 1
  | .slice elems spare => uptoBulkAll elems + uptoBulkAll spare + 1
  | .agg parts => uptoBulkAll parts + 1
  | .iface _ d => uptoBulk d + 1
  | .map entries => uptoBulkEntries entries + 1
  | .held _ => 1
def uptoBulkAll {H : Type} : List (DataW H) → Nat
  | [] => 0
  | d :: r => uptoBulk d + uptoBulkAll r
def uptoBulkEntries {H : Type} : List (Lit × DataW H) → Nat
  | [] => 0
  | x :: r => uptoBulkEntry x + uptoBulkEntries r
def uptoBulkEntry {H : Type} : Lit × DataW H → Nat
  | (.string bytes, d) => bytes.length + uptoBulk d + 1
  | (_, d) => uptoBulk d + 1
 end
def uptoSmall : (H : Type) → List (DataW H) → Bool := fun _ ds => decide (uptoBulkAll ds ≤ 1048576)
def OpenSpec.upto (s : _root_.Go.ChangeSpec) : _root_.Go.OpenSpec := { _root_.Go.OpenSpec.ofChange s with cond := some uptoSmall }

/-- 'estuarylaw11.RoundAnswers', WHERE WHAT IT READS IS OF BULK AT MOST 1048576: true; the input reads as it did. -/
def roundAnswersUptoRow : OpenClaim := { program := "ytcafnbjmebichaa", sum := "6ebf0067527b8ce902fcb687b8d9522a5b98d89c6e97e13975a7840ef2ccfc9a", func := "estuary/estuarylaw11.RoundAnswers", spec := "roundAnswers", unfollowed := true, recurses := true, plainKeys := false, apart := false, narrowed := true }
def RoundAnswersUptoSaid : Prop := roundAnswersUptoRow.holds Try.pinned (OpenSpec.upto roundAnswersSpec)

/-- 'estuarylaw11.RoundNone', WHERE WHAT IT READS IS OF BULK AT MOST 1048576: true; the input reads as it did. -/
def roundNoneUptoRow : OpenClaim := { program := "ytcafnbjmebichaa", sum := "6ebf0067527b8ce902fcb687b8d9522a5b98d89c6e97e13975a7840ef2ccfc9a", func := "estuary/estuarylaw11.RoundNone", spec := "roundNone", unfollowed := true, recurses := true, plainKeys := false, apart := false, narrowed := true }
def RoundNoneUptoSaid : Prop := roundNoneUptoRow.holds Try.pinned (OpenSpec.upto roundNoneSpec)

/-- 'estuarylaw11.RoundDeaf', WHERE WHAT IT READS IS OF BULK AT MOST 1048576: true; the input reads as it did. -/
def roundDeafUptoRow : OpenClaim := { program := "ytcafnbjmebichaa", sum := "6ebf0067527b8ce902fcb687b8d9522a5b98d89c6e97e13975a7840ef2ccfc9a", func := "estuary/estuarylaw11.RoundDeaf", spec := "roundDeaf", unfollowed := true, recurses := true, plainKeys := false, apart := false, narrowed := true }
def RoundDeafUptoSaid : Prop := roundDeafUptoRow.holds Try.pinned (OpenSpec.upto roundDeafSpec)

/-- 'estuarylaw11.RoundChains', WHERE WHAT IT READS IS OF BULK AT MOST 1048576: true; the input reads as it did. -/
def roundChainsUptoRow : OpenClaim := { program := "ytcafnbjmebichaa", sum := "6ebf0067527b8ce902fcb687b8d9522a5b98d89c6e97e13975a7840ef2ccfc9a", func := "estuary/estuarylaw11.RoundChains", spec := "roundChains", unfollowed := true, recurses := true, plainKeys := false, apart := false, narrowed := true }
def RoundChainsUptoSaid : Prop := roundChainsUptoRow.holds Try.pinned (OpenSpec.upto roundChainsSpec)

/-- 'estuarylaw11.RoundOnce', WHERE WHAT IT READS IS OF BULK AT MOST 1048576: true; the input reads as it did. -/
def roundOnceUptoRow : OpenClaim := { program := "ytcafnbjmebichaa", sum := "6ebf0067527b8ce902fcb687b8d9522a5b98d89c6e97e13975a7840ef2ccfc9a", func := "estuary/estuarylaw11.RoundOnce", spec := "roundOnce", unfollowed := true, recurses := true, plainKeys := false, apart := false, narrowed := true }
def RoundOnceUptoSaid : Prop := roundOnceUptoRow.holds Try.pinned (OpenSpec.upto roundOnceSpec)

/-- 'estuarylaw16.BasinNone', WHERE WHAT IT READS IS OF BULK AT MOST 1048576: true; the input reads as it did. -/
def basinNoneUptoRow : OpenClaim := { program := "ytcafnbjmebichaa", sum := "6ebf0067527b8ce902fcb687b8d9522a5b98d89c6e97e13975a7840ef2ccfc9a", func := "estuary/estuarylaw16.BasinNone", spec := "basinNone", inPlace := ["math/bits.Add64"], unfollowed := true, recurses := true, plainKeys := false, apart := false, narrowed := true }
def BasinNoneUptoSaid : Prop := basinNoneUptoRow.holds Try.pinned (OpenSpec.upto basinNoneSpec)

/-- 'estuarylaw17.GateBack', WHERE WHAT IT READS IS OF BULK AT MOST 1048576: true; the input reads as it did. -/
def gateBackUptoRow : OpenClaim := { program := "ytcafnbjmebichaa", sum := "6ebf0067527b8ce902fcb687b8d9522a5b98d89c6e97e13975a7840ef2ccfc9a", func := "estuary/estuarylaw17.GateBack", spec := "gateBack", inPlace := ["math/bits.Add64"], unfollowed := true, recurses := true, plainKeys := false, apart := false, narrowed := true }
def GateBackUptoSaid : Prop := gateBackUptoRow.holds Try.pinned (OpenSpec.upto gateBackSpec)

end Rows
end Go.Proofs.Ytcafnbjmebichaa
