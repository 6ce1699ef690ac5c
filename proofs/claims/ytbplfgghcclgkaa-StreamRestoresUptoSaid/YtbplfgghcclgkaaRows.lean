/-
  No cell of these rows narrows 'for every input' (looked for: loops, veiled, ifaces, maps, wideKeys, modest, calm, conditions, laid).
  DERIVED. THE GIVEN ROWS OF THIS SEAT. 13 by the template 'for every input the law returns true; each argument reads behind the call as it read before'; 0 by the template 'total and deterministic' (their statements: YtbplfgghcclgkaaTotals.lean).
  GIVEN WITH THE SEED: the statements are not yours to turn. If you find one false, say at which input.
  Laid BY PROGRAM, IN A SANDBOX (cutbox-rows.mjs): the forced cells as the released guide's own fill.sh prints them over the translation 905577048fa156b7… (all of the seat's roots in one cut). By AI agents, Wed Nov 11 2026. No macro, syntax, notation, axiom, sorry.
-/
import Derived.Test.YtbplfgghcclgkaaChecked
import GoSem.Claim
import GoSem.ClaimJoined
import GoSem.ClaimMapViews
import Derived.JoinedTies
import Derived.KernelRfl
namespace Go.Proofs.Ytbplfgghcclgkaa
/- THE CELL 'sum', in the pinned program and in every row, IS THE sha256 OF THE DUMP (.gsa) THAT YtbplfgghcclgkaaProg.lean LOADS. Nothing in Lean hashes anything: it is a label: what it is worth is what the hold of that sum in a sandbox is worth. -/
noncomputable def Try.pinned : Pinned := { name := "ytbplfgghcclgkaa", sum := "905577048fa156b73ad0a42e300bedfb542abef0a20a7a488b979b868d5ac11a", checked := Try.checked }
namespace Rows
def none {H : Type} : Left H := { results := [], args := [] }

/-- 'estuarylaw21.AuditAnswers': WHATEVER THE INPUT: true; the input reads as it did. -/
def auditAnswersSpec : ChangeSpec := { name := "auditAnswers", fn := fun _ => fun
  | [d] => { results := [.lit (.bool true)], args := [d] }
  | _ => none }
def auditAnswersRow : OpenClaim := { program := "ytbplfgghcclgkaa", sum := "905577048fa156b73ad0a42e300bedfb542abef0a20a7a488b979b868d5ac11a", func := "estuary/estuarylaw21.AuditAnswers", spec := "auditAnswers", inPlace := ["math/bits.Add64"], unfollowed := true, recurses := true, plainKeys := false, apart := false }
def AuditAnswersSaid : Prop := auditAnswersRow.holds Try.pinned (OpenSpec.ofChange auditAnswersSpec)

/-- ITS FALSE NEIGHBOUR: 'it returns false'. Refute it at one input. -/
def auditAnswersWrong : ChangeSpec := { name := "auditAnswers", fn := fun _ => fun
  | [d] => { results := [.lit (.bool false)], args := [d] }
  | _ => none }
def AuditAnswersWrongFalsely : Prop := auditAnswersRow.holds Try.pinned (OpenSpec.ofChange auditAnswersWrong)

/-- 'estuarylaw21.AuditStays': WHATEVER THE INPUT: true; the input reads as it did. -/
def auditStaysSpec : ChangeSpec := { name := "auditStays", fn := fun _ => fun
  | [d1, d2, d3] => { results := [.lit (.bool true)], args := [d1, d2, d3] }
  | _ => none }
def auditStaysRow : OpenClaim := { program := "ytbplfgghcclgkaa", sum := "905577048fa156b73ad0a42e300bedfb542abef0a20a7a488b979b868d5ac11a", func := "estuary/estuarylaw21.AuditStays", spec := "auditStays", inPlace := ["math/bits.Add64"], unfollowed := true, recurses := true, plainKeys := false, apart := false }
def AuditStaysSaid : Prop := auditStaysRow.holds Try.pinned (OpenSpec.ofChange auditStaysSpec)

/-- ITS FALSE NEIGHBOUR: 'it returns false'. Refute it at one input. -/
def auditStaysWrong : ChangeSpec := { name := "auditStays", fn := fun _ => fun
  | [d1, d2, d3] => { results := [.lit (.bool false)], args := [d1, d2, d3] }
  | _ => none }
def AuditStaysWrongFalsely : Prop := auditStaysRow.holds Try.pinned (OpenSpec.ofChange auditStaysWrong)

/-- 'estuarylaw21.AuditParts': WHATEVER THE INPUT: true; the input reads as it did. -/
def auditPartsSpec : ChangeSpec := { name := "auditParts", fn := fun _ => fun
  | [d1, d2] => { results := [.lit (.bool true)], args := [d1, d2] }
  | _ => none }
def auditPartsRow : OpenClaim := { program := "ytbplfgghcclgkaa", sum := "905577048fa156b73ad0a42e300bedfb542abef0a20a7a488b979b868d5ac11a", func := "estuary/estuarylaw21.AuditParts", spec := "auditParts", inPlace := ["math/bits.Add64"], unfollowed := true, recurses := true, plainKeys := false, apart := false }
def AuditPartsSaid : Prop := auditPartsRow.holds Try.pinned (OpenSpec.ofChange auditPartsSpec)

/-- ITS FALSE NEIGHBOUR: 'it returns false'. Refute it at one input. -/
def auditPartsWrong : ChangeSpec := { name := "auditParts", fn := fun _ => fun
  | [d1, d2] => { results := [.lit (.bool false)], args := [d1, d2] }
  | _ => none }
def AuditPartsWrongFalsely : Prop := auditPartsRow.holds Try.pinned (OpenSpec.ofChange auditPartsWrong)

/-- 'estuarylaw21.AuditChecks': WHATEVER THE INPUT: true; the input reads as it did. -/
def auditChecksSpec : ChangeSpec := { name := "auditChecks", fn := fun _ => fun
  | [d1, d2] => { results := [.lit (.bool true)], args := [d1, d2] }
  | _ => none }
def auditChecksRow : OpenClaim := { program := "ytbplfgghcclgkaa", sum := "905577048fa156b73ad0a42e300bedfb542abef0a20a7a488b979b868d5ac11a", func := "estuary/estuarylaw21.AuditChecks", spec := "auditChecks", inPlace := ["math/bits.Add64"], unfollowed := true, recurses := true, plainKeys := false, apart := false }
def AuditChecksSaid : Prop := auditChecksRow.holds Try.pinned (OpenSpec.ofChange auditChecksSpec)

/-- ITS FALSE NEIGHBOUR: 'it returns false'. Refute it at one input. -/
def auditChecksWrong : ChangeSpec := { name := "auditChecks", fn := fun _ => fun
  | [d1, d2] => { results := [.lit (.bool false)], args := [d1, d2] }
  | _ => none }
def AuditChecksWrongFalsely : Prop := auditChecksRow.holds Try.pinned (OpenSpec.ofChange auditChecksWrong)

/-- 'estuarylaw21.AuditRight': WHATEVER THE INPUT: true; the input reads as it did. -/
def auditRightSpec : ChangeSpec := { name := "auditRight", fn := fun _ => fun
  | [d1, d2, d3] => { results := [.lit (.bool true)], args := [d1, d2, d3] }
  | _ => none }
def auditRightRow : OpenClaim := { program := "ytbplfgghcclgkaa", sum := "905577048fa156b73ad0a42e300bedfb542abef0a20a7a488b979b868d5ac11a", func := "estuary/estuarylaw21.AuditRight", spec := "auditRight", inPlace := ["math/bits.Add64"], unfollowed := true, recurses := true, plainKeys := false, apart := false }
def AuditRightSaid : Prop := auditRightRow.holds Try.pinned (OpenSpec.ofChange auditRightSpec)

/-- ITS FALSE NEIGHBOUR: 'it returns false'. Refute it at one input. -/
def auditRightWrong : ChangeSpec := { name := "auditRight", fn := fun _ => fun
  | [d1, d2, d3] => { results := [.lit (.bool false)], args := [d1, d2, d3] }
  | _ => none }
def AuditRightWrongFalsely : Prop := auditRightRow.holds Try.pinned (OpenSpec.ofChange auditRightWrong)

/-- 'estuarylaw14.StreamDrops': WHATEVER THE INPUT: true; the input reads as it did. -/
def streamDropsSpec : ChangeSpec := { name := "streamDrops", fn := fun _ => fun
  | [d1, d2] => { results := [.lit (.bool true)], args := [d1, d2] }
  | _ => none }
def streamDropsRow : OpenClaim := { program := "ytbplfgghcclgkaa", sum := "905577048fa156b73ad0a42e300bedfb542abef0a20a7a488b979b868d5ac11a", func := "estuary/estuarylaw14.StreamDrops", spec := "streamDrops", inPlace := ["slices.overlaps[estuary/api.Op]"], unfollowed := true, recurses := true, plainKeys := false, apart := false }
def StreamDropsSaid : Prop := streamDropsRow.holds Try.pinned (OpenSpec.ofChange streamDropsSpec)

/-- ITS FALSE NEIGHBOUR: 'it returns false'. Refute it at one input. -/
def streamDropsWrong : ChangeSpec := { name := "streamDrops", fn := fun _ => fun
  | [d1, d2] => { results := [.lit (.bool false)], args := [d1, d2] }
  | _ => none }
def StreamDropsWrongFalsely : Prop := streamDropsRow.holds Try.pinned (OpenSpec.ofChange streamDropsWrong)

/-- 'estuarylaw14.StreamFull': WHATEVER THE INPUT: true; the input reads as it did. -/
def streamFullSpec : ChangeSpec := { name := "streamFull", fn := fun _ => fun
  | [d1, d2, d3] => { results := [.lit (.bool true)], args := [d1, d2, d3] }
  | _ => none }
def streamFullRow : OpenClaim := { program := "ytbplfgghcclgkaa", sum := "905577048fa156b73ad0a42e300bedfb542abef0a20a7a488b979b868d5ac11a", func := "estuary/estuarylaw14.StreamFull", spec := "streamFull", inPlace := ["slices.overlaps[estuary/api.Op]"], unfollowed := true, recurses := true, plainKeys := false, apart := false }
def StreamFullSaid : Prop := streamFullRow.holds Try.pinned (OpenSpec.ofChange streamFullSpec)

/-- ITS FALSE NEIGHBOUR: 'it returns false'. Refute it at one input. -/
def streamFullWrong : ChangeSpec := { name := "streamFull", fn := fun _ => fun
  | [d1, d2, d3] => { results := [.lit (.bool false)], args := [d1, d2, d3] }
  | _ => none }
def StreamFullWrongFalsely : Prop := streamFullRow.holds Try.pinned (OpenSpec.ofChange streamFullWrong)

/-- 'estuarylaw14.StreamRises': WHATEVER THE INPUT: true; the input reads as it did. -/
def streamRisesSpec : ChangeSpec := { name := "streamRises", fn := fun _ => fun
  | [d] => { results := [.lit (.bool true)], args := [d] }
  | _ => none }
def streamRisesRow : OpenClaim := { program := "ytbplfgghcclgkaa", sum := "905577048fa156b73ad0a42e300bedfb542abef0a20a7a488b979b868d5ac11a", func := "estuary/estuarylaw14.StreamRises", spec := "streamRises", inPlace := ["slices.overlaps[estuary/api.Op]"], unfollowed := true, recurses := true, plainKeys := false, apart := false }
def StreamRisesSaid : Prop := streamRisesRow.holds Try.pinned (OpenSpec.ofChange streamRisesSpec)

/-- ITS FALSE NEIGHBOUR: 'it returns false'. Refute it at one input. -/
def streamRisesWrong : ChangeSpec := { name := "streamRises", fn := fun _ => fun
  | [d] => { results := [.lit (.bool false)], args := [d] }
  | _ => none }
def StreamRisesWrongFalsely : Prop := streamRisesRow.holds Try.pinned (OpenSpec.ofChange streamRisesWrong)

/-- 'estuarylaw14.StreamReplays': WHATEVER THE INPUT: true; the input reads as it did. -/
def streamReplaysSpec : ChangeSpec := { name := "streamReplays", fn := fun _ => fun
  | [d1, d2] => { results := [.lit (.bool true)], args := [d1, d2] }
  | _ => none }
def streamReplaysRow : OpenClaim := { program := "ytbplfgghcclgkaa", sum := "905577048fa156b73ad0a42e300bedfb542abef0a20a7a488b979b868d5ac11a", func := "estuary/estuarylaw14.StreamReplays", spec := "streamReplays", inPlace := ["slices.overlaps[estuary/api.Op]"], unfollowed := true, recurses := true, plainKeys := false, apart := false }
def StreamReplaysSaid : Prop := streamReplaysRow.holds Try.pinned (OpenSpec.ofChange streamReplaysSpec)

/-- ITS FALSE NEIGHBOUR: 'it returns false'. Refute it at one input. -/
def streamReplaysWrong : ChangeSpec := { name := "streamReplays", fn := fun _ => fun
  | [d1, d2] => { results := [.lit (.bool false)], args := [d1, d2] }
  | _ => none }
def StreamReplaysWrongFalsely : Prop := streamReplaysRow.holds Try.pinned (OpenSpec.ofChange streamReplaysWrong)

/-- 'estuarylaw14.StreamPlays': WHATEVER THE INPUT: true; the input reads as it did. -/
def streamPlaysSpec : ChangeSpec := { name := "streamPlays", fn := fun _ => fun
  | [d] => { results := [.lit (.bool true)], args := [d] }
  | _ => none }
def streamPlaysRow : OpenClaim := { program := "ytbplfgghcclgkaa", sum := "905577048fa156b73ad0a42e300bedfb542abef0a20a7a488b979b868d5ac11a", func := "estuary/estuarylaw14.StreamPlays", spec := "streamPlays", inPlace := ["slices.overlaps[estuary/api.Op]"], unfollowed := true, recurses := true, plainKeys := false, apart := false }
def StreamPlaysSaid : Prop := streamPlaysRow.holds Try.pinned (OpenSpec.ofChange streamPlaysSpec)

/-- ITS FALSE NEIGHBOUR: 'it returns false'. Refute it at one input. -/
def streamPlaysWrong : ChangeSpec := { name := "streamPlays", fn := fun _ => fun
  | [d] => { results := [.lit (.bool false)], args := [d] }
  | _ => none }
def StreamPlaysWrongFalsely : Prop := streamPlaysRow.holds Try.pinned (OpenSpec.ofChange streamPlaysWrong)

/-- 'estuarylaw14.StreamNone': WHATEVER THE INPUT: true; the input reads as it did. -/
def streamNoneSpec : ChangeSpec := { name := "streamNone", fn := fun _ => fun
  | [d] => { results := [.lit (.bool true)], args := [d] }
  | _ => none }
def streamNoneRow : OpenClaim := { program := "ytbplfgghcclgkaa", sum := "905577048fa156b73ad0a42e300bedfb542abef0a20a7a488b979b868d5ac11a", func := "estuary/estuarylaw14.StreamNone", spec := "streamNone", inPlace := ["slices.overlaps[estuary/api.Op]"], unfollowed := true, recurses := true, plainKeys := false, apart := false }
def StreamNoneSaid : Prop := streamNoneRow.holds Try.pinned (OpenSpec.ofChange streamNoneSpec)

/-- ITS FALSE NEIGHBOUR: 'it returns false'. Refute it at one input. -/
def streamNoneWrong : ChangeSpec := { name := "streamNone", fn := fun _ => fun
  | [d] => { results := [.lit (.bool false)], args := [d] }
  | _ => none }
def StreamNoneWrongFalsely : Prop := streamNoneRow.holds Try.pinned (OpenSpec.ofChange streamNoneWrong)

/-- 'estuarylaw14.StreamRestores': WHATEVER THE INPUT: true; the input reads as it did. -/
def streamRestoresSpec : ChangeSpec := { name := "streamRestores", fn := fun _ => fun
  | [d1, d2] => { results := [.lit (.bool true)], args := [d1, d2] }
  | _ => none }
def streamRestoresRow : OpenClaim := { program := "ytbplfgghcclgkaa", sum := "905577048fa156b73ad0a42e300bedfb542abef0a20a7a488b979b868d5ac11a", func := "estuary/estuarylaw14.StreamRestores", spec := "streamRestores", inPlace := ["slices.overlaps[estuary/api.Op]"], unfollowed := true, recurses := true, plainKeys := false, apart := false }
def StreamRestoresSaid : Prop := streamRestoresRow.holds Try.pinned (OpenSpec.ofChange streamRestoresSpec)

/-- ITS FALSE NEIGHBOUR: 'it returns false'. Refute it at one input. -/
def streamRestoresWrong : ChangeSpec := { name := "streamRestores", fn := fun _ => fun
  | [d1, d2] => { results := [.lit (.bool false)], args := [d1, d2] }
  | _ => none }
def StreamRestoresWrongFalsely : Prop := streamRestoresRow.holds Try.pinned (OpenSpec.ofChange streamRestoresWrong)

/-- 'estuarylaw21.AuditCells': WHATEVER THE INPUT: true; the input reads as it did. -/
def auditCellsSpec : ChangeSpec := { name := "auditCells", fn := fun _ => fun
  | [d1, d2, d3] => { results := [.lit (.bool true)], args := [d1, d2, d3] }
  | _ => none }
def auditCellsRow : OpenClaim := { program := "ytbplfgghcclgkaa", sum := "905577048fa156b73ad0a42e300bedfb542abef0a20a7a488b979b868d5ac11a", func := "estuary/estuarylaw21.AuditCells", spec := "auditCells", inPlace := ["math/bits.Add64"], unfollowed := true, recurses := true, plainKeys := false, apart := false }
def AuditCellsSaid : Prop := auditCellsRow.holds Try.pinned (OpenSpec.ofChange auditCellsSpec)

/-- ITS FALSE NEIGHBOUR: 'it returns false'. Refute it at one input. -/
def auditCellsWrong : ChangeSpec := { name := "auditCells", fn := fun _ => fun
  | [d1, d2, d3] => { results := [.lit (.bool false)], args := [d1, d2, d3] }
  | _ => none }
def AuditCellsWrongFalsely : Prop := auditCellsRow.holds Try.pinned (OpenSpec.ofChange auditCellsWrong)

/- THE SECOND FORM. 'bulk': how many values and letters a reading holds, each counted each time it is reached (what is shared counts as often as it is met; a slice's spare places count too). A statement '..UptoSaid' is the law's where the arguments, and the package variables that the reading takes, are together of bulk at most 1048576: NARROWER than '..Said'. Prove '..Said' where nothing that the law and all that it calls make is longer than what came in: it says more and counts as full. Else prove '..UptoSaid'. A law counts once. -/
mutual
def uptoBulk {H : Type} : DataW H → Nat
  | .lit (.string bytes) => bytes.length + 1
  | .lit _ => 1
  | .nil => 1
  | .ptr d => uptoBulk d + 1
  | .slice elems spare => uptoBulkAll elems + uptoBulkAll spare + 1
  | .agg parts => uptoBulkAll parts + 1
  | .iface _ d => uptoBulk d + 1
  | .map entries => uptoBulkEntries entries + 1
  | .held _ => 1
def uptoBulkAll {H : Type} : List (DataW H) → Nat
  | [] => 0
  | d :: r => uptoBulk d + uptoBulkAll r
def uptoBulkEntries {H : Type} : List (Lit × DataW H) → Nat
  | [] => 0
  | x :: r => uptoBulkEntry x + uptoBulkEntries r
def uptoBulkEntry {H : Type} : Lit × DataW H → Nat
  | (.string bytes, d) => bytes.length + uptoBulk d + 1
  | (_, d) => uptoBulk d + 1
 end
def uptoSmall : (H : Type) → List (DataW H) → Bool := fun _ ds => decide (uptoBulkAll ds ≤ 1048576)
def OpenSpec.upto (s : _root_.Go.ChangeSpec) : _root_.Go.OpenSpec := { _root_.Go.OpenSpec.ofChange s with cond := some uptoSmall }

/-- 'estuarylaw21.AuditAnswers', WHERE WHAT IT READS IS OF BULK AT MOST 1048576: true; the input reads as it did. -/
def auditAnswersUptoRow : OpenClaim := { program := "ytbplfgghcclgkaa", sum := "905577048fa156b73ad0a42e300bedfb542abef0a20a7a488b979b868d5ac11a", func := "estuary/estuarylaw21.AuditAnswers", spec := "auditAnswers", inPlace := ["math/bits.Add64"], unfollowed := true, recurses := true, plainKeys := false, apart := false, narrowed := true }
def AuditAnswersUptoSaid : Prop := auditAnswersUptoRow.holds Try.pinned (OpenSpec.upto auditAnswersSpec)

/-- 'estuarylaw21.AuditStays', WHERE WHAT IT READS IS OF BULK AT MOST 1048576: true; the input reads as it did. -/
def auditStaysUptoRow : OpenClaim := { program := "ytbplfgghcclgkaa", sum := "905577048fa156b73ad0a42e300bedfb542abef0a20a7a488b979b868d5ac11a", func := "estuary/estuarylaw21.AuditStays", spec := "auditStays", inPlace := ["math/bits.Add64"], unfollowed := true, recurses := true, plainKeys := false, apart := false, narrowed := true }
def AuditStaysUptoSaid : Prop := auditStaysUptoRow.holds Try.pinned (OpenSpec.upto auditStaysSpec)

/-- 'estuarylaw21.AuditParts', WHERE WHAT IT READS IS OF BULK AT MOST 1048576: true; the input reads as it did. -/
def auditPartsUptoRow : OpenClaim := { program := "ytbplfgghcclgkaa", sum := "905577048fa156b73ad0a42e300bedfb542abef0a20a7a488b979b868d5ac11a", func := "estuary/estuarylaw21.AuditParts", spec := "auditParts", inPlace := ["math/bits.Add64"], unfollowed := true, recurses := true, plainKeys := false, apart := false, narrowed := true }
def AuditPartsUptoSaid : Prop := auditPartsUptoRow.holds Try.pinned (OpenSpec.upto auditPartsSpec)

/-- 'estuarylaw21.AuditChecks', WHERE WHAT IT READS IS OF BULK AT MOST 1048576: true; the input reads as it did. -/
def auditChecksUptoRow : OpenClaim := { program := "ytbplfgghcclgkaa", sum := "905577048fa156b73ad0a42e300bedfb542abef0a20a7a488b979b868d5ac11a", func := "estuary/estuarylaw21.AuditChecks", spec := "auditChecks", inPlace := ["math/bits.Add64"], unfollowed := true, recurses := true, plainKeys := false, apart := false, narrowed := true }
def AuditChecksUptoSaid : Prop := auditChecksUptoRow.holds Try.pinned (OpenSpec.upto auditChecksSpec)

/-- 'estuarylaw21.AuditRight', WHERE WHAT IT READS IS OF BULK AT MOST 1048576: true; the input reads as it did. -/
def auditRightUptoRow : OpenClaim := { program := "ytbplfgghcclgkaa", sum := "905577048fa156b73ad0a42e300bedfb542abef0a20a7a488b979b868d5ac11a", func := "estuary/estuarylaw21.AuditRight", spec := "auditRight", inPlace := ["math/bits.Add64"], unfollowed := true, recurses := true, plainKeys := false, apart := false, narrowed := true }
def AuditRightUptoSaid : Prop := auditRightUptoRow.holds Try.pinned (OpenSpec.upto auditRightSpec)

/-- 'estuarylaw14.StreamDrops', WHERE WHAT IT READS IS OF BULK AT MOST 1048576: true; the input reads as it did. -/
def streamDropsUptoRow : OpenClaim := { program := "ytbplfgghcclgkaa", sum := "905577048fa156b73ad0a42e300bedfb542abef0a20a7a488b979b868d5ac11a", func := "estuary/estuarylaw14.StreamDrops", spec := "streamDrops", inPlace := ["slices.overlaps[estuary/api.Op]"], unfollowed := true, recurses := true, plainKeys := false, apart := false, narrowed := true }
def StreamDropsUptoSaid : Prop := streamDropsUptoRow.holds Try.pinned (OpenSpec.upto streamDropsSpec)

/-- 'estuarylaw14.StreamFull', WHERE WHAT IT READS IS OF BULK AT MOST 1048576: true; the input reads as it did. -/
def streamFullUptoRow : OpenClaim := { program := "ytbplfgghcclgkaa", sum := "905577048fa156b73ad0a42e300bedfb542abef0a20a7a488b979b868d5ac11a", func := "estuary/estuarylaw14.StreamFull", spec := "streamFull", inPlace := ["slices.overlaps[estuary/api.Op]"], unfollowed := true, recurses := true, plainKeys := false, apart := false, narrowed := true }
def StreamFullUptoSaid : Prop := streamFullUptoRow.holds Try.pinned (OpenSpec.upto streamFullSpec)

/-- 'estuarylaw14.StreamRises', WHERE WHAT IT READS IS OF BULK AT MOST 1048576: true; the input reads as it did. -/
def streamRisesUptoRow : OpenClaim := { program := "ytbplfgghcclgkaa", sum := "905577048fa156b73ad0a42e300bedfb542abef0a20a7a488b979b868d5ac11a", func := "estuary/estuarylaw14.StreamRises", spec := "streamRises", inPlace := ["slices.overlaps[estuary/api.Op]"], unfollowed := true, recurses := true, plainKeys := false, apart := false, narrowed := true }
def StreamRisesUptoSaid : Prop := streamRisesUptoRow.holds Try.pinned (OpenSpec.upto streamRisesSpec)

/-- 'estuarylaw14.StreamReplays', WHERE WHAT IT READS IS OF BULK AT MOST 1048576: true; the input reads as it did. -/
def streamReplaysUptoRow : OpenClaim := { program := "ytbplfgghcclgkaa", sum := "905577048fa156b73ad0a42e300bedfb542abef0a20a7a488b979b868d5ac11a", func := "estuary/estuarylaw14.StreamReplays", spec := "streamReplays", inPlace := ["slices.overlaps[estuary/api.Op]"], unfollowed := true, recurses := true, plainKeys := false, apart := false, narrowed := true }
def StreamReplaysUptoSaid : Prop := streamReplaysUptoRow.holds Try.pinned (OpenSpec.upto streamReplaysSpec)

/-- 'estuarylaw14.StreamPlays', WHERE WHAT IT READS IS OF BULK AT MOST 1048576: true; the input reads as it did. -/
def streamPlaysUptoRow : OpenClaim := { program := "ytbplfgghcclgkaa", sum := "905577048fa156b73ad0a42e300bedfb542abef0a20a7a488b979b868d5ac11a", func := "estuary/estuarylaw14.StreamPlays", spec := "streamPlays", inPlace := ["slices.overlaps[estuary/api.Op]"], unfollowed := true, recurses := true, plainKeys := false, apart := false, narrowed := true }
def StreamPlaysUptoSaid : Prop := streamPlaysUptoRow.holds Try.pinned (OpenSpec.upto streamPlaysSpec)

/-- 'estuarylaw14.StreamNone', WHERE WHAT IT READS IS OF BULK AT MOST 1048576: true; the input reads as it did. -/
def streamNoneUptoRow : OpenClaim := { program := "ytbplfgghcclgkaa", sum := "905577048fa156b73ad0a42e300bedfb542abef0a20a7a488b979b868d5ac11a", func := "estuary/estuarylaw14.StreamNone", spec := "streamNone", inPlace := ["slices.overlaps[estuary/api.Op]"], unfollowed := true, recurses := true, plainKeys := false, apart := false, narrowed := true }
def StreamNoneUptoSaid : Prop := streamNoneUptoRow.holds Try.pinned (OpenSpec.upto streamNoneSpec)

/-- 'estuarylaw14.StreamRestores', WHERE WHAT IT READS IS OF BULK AT MOST 1048576: true; the input reads as it did. -/
def streamRestoresUptoRow : OpenClaim := { program := "ytbplfgghcclgkaa", sum := "905577048fa156b73ad0a42e300bedfb542abef0a20a7a488b979b868d5ac11a", func := "estuary/estuarylaw14.StreamRestores", spec := "streamRestores", inPlace := ["slices.overlaps[estuary/api.Op]"], unfollowed := true, recurses := true, plainKeys := false, apart := false, narrowed := true }
def StreamRestoresUptoSaid : Prop := streamRestoresUptoRow.holds Try.pinned (OpenSpec.upto streamRestoresSpec)

/-- 'estuarylaw21.AuditCells', WHERE WHAT IT READS IS OF BULK AT MOST 1048576: true; the input reads as it did. -/
def auditCellsUptoRow : OpenClaim := { program := "ytbplfgghcclgkaa", sum := "905577048fa156b73ad0a42e300bedfb542abef0a20a7a488b979b868d5ac11a", func := "estuary/estuarylaw21.AuditCells", spec := "auditCells", inPlace := ["math/bits.Add64"], unfollowed := true, recurses := true, plainKeys := false, apart := false, narrowed := true }
def AuditCellsUptoSaid : Prop := auditCellsUptoRow.holds Try.pinned (OpenSpec.upto auditCellsSpec)

end Rows
end Go.Proofs.Ytbplfgghcclgkaa
