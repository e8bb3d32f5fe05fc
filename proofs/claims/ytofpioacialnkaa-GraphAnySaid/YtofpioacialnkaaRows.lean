/-
  No cell of these rows narrows 'for every input' (looked for: loops, veiled, ifaces, maps, wideKeys, modest, calm, conditions, laid).
  DERIVED. THE GIVEN ROWS OF THIS SEAT. 11 by the template 'for every input the law returns true; each argument reads behind the call as it read before'; 0 by the template 'total and deterministic' (their statements: YtofpioacialnkaaTotals.lean).
  GIVEN WITH THE SEED: the statements are not yours to turn. If you find one false, say at which input.
  Laid BY PROGRAM, IN A SANDBOX (cutbox-rows.mjs): the forced cells as the released guide's own fill.sh prints them over the translation f597f61250c4caf5… (all of the seat's roots in one cut). By AI agents, Wed Nov 11 2026. No macro, syntax, notation, axiom, sorry.
-/
import Derived.Test.YtofpioacialnkaaChecked
import GoSem.Claim
import GoSem.ClaimJoined
import GoSem.ClaimMapViews
import Derived.JoinedTies
import Derived.KernelRfl
namespace Go.Proofs.Ytofpioacialnkaa
/- THE CELL 'sum', in the pinned program and in every row, IS THE sha256 OF THE DUMP (.gsa) THAT YtofpioacialnkaaProg.lean LOADS. Nothing in Lean hashes anything: it is a label: what it is worth is what the hold of that sum in a sandbox is worth. -/
noncomputable def Try.pinned : Pinned := { name := "ytofpioacialnkaa", sum := "f597f61250c4caf52a5785cfc369fdcc19c650e97e94d43b7b093a3a8b3a99b9", checked := Try.checked }
namespace Rows
def none {H : Type} : Left H := { results := [], args := [] }

/-- 'watchbilllaw19.GuardApart': WHATEVER THE INPUT: true; the input reads as it did. -/
def guardApartSpec : ChangeSpec := { name := "guardApart", fn := fun _ => fun
  | [d1, d2] => { results := [.lit (.bool true)], args := [d1, d2] }
  | _ => none }
def guardApartRow : OpenClaim := { program := "ytofpioacialnkaa", sum := "f597f61250c4caf52a5785cfc369fdcc19c650e97e94d43b7b093a3a8b3a99b9", func := "watchbill/watchbilllaw19.GuardApart", spec := "guardApart", apart := false }
def GuardApartSaid : Prop := guardApartRow.holds Try.pinned (OpenSpec.ofChange guardApartSpec)

/-- ITS FALSE NEIGHBOUR: 'it returns false'. Refute it at one input. -/
def guardApartWrong : ChangeSpec := { name := "guardApart", fn := fun _ => fun
  | [d1, d2] => { results := [.lit (.bool false)], args := [d1, d2] }
  | _ => none }
def GuardApartWrongFalsely : Prop := guardApartRow.holds Try.pinned (OpenSpec.ofChange guardApartWrong)

/-- 'watchbilllaw19.GuardOthers': WHATEVER THE INPUT: true; the input reads as it did. -/
def guardOthersSpec : ChangeSpec := { name := "guardOthers", fn := fun _ => fun
  | [d1, d2] => { results := [.lit (.bool true)], args := [d1, d2] }
  | _ => none }
def guardOthersRow : OpenClaim := { program := "ytofpioacialnkaa", sum := "f597f61250c4caf52a5785cfc369fdcc19c650e97e94d43b7b093a3a8b3a99b9", func := "watchbill/watchbilllaw19.GuardOthers", spec := "guardOthers", apart := false }
def GuardOthersSaid : Prop := guardOthersRow.holds Try.pinned (OpenSpec.ofChange guardOthersSpec)

/-- ITS FALSE NEIGHBOUR: 'it returns false'. Refute it at one input. -/
def guardOthersWrong : ChangeSpec := { name := "guardOthers", fn := fun _ => fun
  | [d1, d2] => { results := [.lit (.bool false)], args := [d1, d2] }
  | _ => none }
def GuardOthersWrongFalsely : Prop := guardOthersRow.holds Try.pinned (OpenSpec.ofChange guardOthersWrong)

/-- 'watchbilllaw19.GuardPlays': WHATEVER THE INPUT: true; the input reads as it did. -/
def guardPlaysSpec : ChangeSpec := { name := "guardPlays", fn := fun _ => fun
  | [d1, d2] => { results := [.lit (.bool true)], args := [d1, d2] }
  | _ => none }
def guardPlaysRow : OpenClaim := { program := "ytofpioacialnkaa", sum := "f597f61250c4caf52a5785cfc369fdcc19c650e97e94d43b7b093a3a8b3a99b9", func := "watchbill/watchbilllaw19.GuardPlays", spec := "guardPlays", inPlace := ["maps.clone"], apart := false }
def GuardPlaysSaid : Prop := guardPlaysRow.holds Try.pinned (OpenSpec.ofChange guardPlaysSpec)

/-- ITS FALSE NEIGHBOUR: 'it returns false'. Refute it at one input. -/
def guardPlaysWrong : ChangeSpec := { name := "guardPlays", fn := fun _ => fun
  | [d1, d2] => { results := [.lit (.bool false)], args := [d1, d2] }
  | _ => none }
def GuardPlaysWrongFalsely : Prop := guardPlaysRow.holds Try.pinned (OpenSpec.ofChange guardPlaysWrong)

/-- 'watchbilllaw18.GraphAny': WHATEVER THE INPUT: true; the input reads as it did. -/
def graphAnySpec : ChangeSpec := { name := "graphAny", fn := fun _ => fun
  | [d1, d2, d3, d4] => { results := [.lit (.bool true)], args := [d1, d2, d3, d4] }
  | _ => none }
def graphAnyRow : OpenClaim := { program := "ytofpioacialnkaa", sum := "f597f61250c4caf52a5785cfc369fdcc19c650e97e94d43b7b093a3a8b3a99b9", func := "watchbill/watchbilllaw18.GraphAny", spec := "graphAny", apart := false }
def GraphAnySaid : Prop := graphAnyRow.holds Try.pinned (OpenSpec.ofChange graphAnySpec)

/-- ITS FALSE NEIGHBOUR: 'it returns false'. Refute it at one input. -/
def graphAnyWrong : ChangeSpec := { name := "graphAny", fn := fun _ => fun
  | [d1, d2, d3, d4] => { results := [.lit (.bool false)], args := [d1, d2, d3, d4] }
  | _ => none }
def GraphAnyWrongFalsely : Prop := graphAnyRow.holds Try.pinned (OpenSpec.ofChange graphAnyWrong)

/-- 'watchbilllaw18.GraphLends': WHATEVER THE INPUT: true; the input reads as it did. -/
def graphLendsSpec : ChangeSpec := { name := "graphLends", fn := fun _ => fun
  | [d1, d2] => { results := [.lit (.bool true)], args := [d1, d2] }
  | _ => none }
def graphLendsRow : OpenClaim := { program := "ytofpioacialnkaa", sum := "f597f61250c4caf52a5785cfc369fdcc19c650e97e94d43b7b093a3a8b3a99b9", func := "watchbill/watchbilllaw18.GraphLends", spec := "graphLends", apart := false }
def GraphLendsSaid : Prop := graphLendsRow.holds Try.pinned (OpenSpec.ofChange graphLendsSpec)

/-- ITS FALSE NEIGHBOUR: 'it returns false'. Refute it at one input. -/
def graphLendsWrong : ChangeSpec := { name := "graphLends", fn := fun _ => fun
  | [d1, d2] => { results := [.lit (.bool false)], args := [d1, d2] }
  | _ => none }
def GraphLendsWrongFalsely : Prop := graphLendsRow.holds Try.pinned (OpenSpec.ofChange graphLendsWrong)

/-- 'watchbilllaw18.GraphRow': WHATEVER THE INPUT: true; the input reads as it did. -/
def graphRowSpec : ChangeSpec := { name := "graphRow", fn := fun _ => fun
  | [d1, d2] => { results := [.lit (.bool true)], args := [d1, d2] }
  | _ => none }
def graphRowRow : OpenClaim := { program := "ytofpioacialnkaa", sum := "f597f61250c4caf52a5785cfc369fdcc19c650e97e94d43b7b093a3a8b3a99b9", func := "watchbill/watchbilllaw18.GraphRow", spec := "graphRow", apart := false }
def GraphRowSaid : Prop := graphRowRow.holds Try.pinned (OpenSpec.ofChange graphRowSpec)

/-- ITS FALSE NEIGHBOUR: 'it returns false'. Refute it at one input. -/
def graphRowWrong : ChangeSpec := { name := "graphRow", fn := fun _ => fun
  | [d1, d2] => { results := [.lit (.bool false)], args := [d1, d2] }
  | _ => none }
def GraphRowWrongFalsely : Prop := graphRowRow.holds Try.pinned (OpenSpec.ofChange graphRowWrong)

/-- 'watchbilllaw18.GraphMore': WHATEVER THE INPUT: true; the input reads as it did. -/
def graphMoreSpec : ChangeSpec := { name := "graphMore", fn := fun _ => fun
  | [d1, d2, d3, d4, d5] => { results := [.lit (.bool true)], args := [d1, d2, d3, d4, d5] }
  | _ => none }
def graphMoreRow : OpenClaim := { program := "ytofpioacialnkaa", sum := "f597f61250c4caf52a5785cfc369fdcc19c650e97e94d43b7b093a3a8b3a99b9", func := "watchbill/watchbilllaw18.GraphMore", spec := "graphMore", apart := false }
def GraphMoreSaid : Prop := graphMoreRow.holds Try.pinned (OpenSpec.ofChange graphMoreSpec)

/-- ITS FALSE NEIGHBOUR: 'it returns false'. Refute it at one input. -/
def graphMoreWrong : ChangeSpec := { name := "graphMore", fn := fun _ => fun
  | [d1, d2, d3, d4, d5] => { results := [.lit (.bool false)], args := [d1, d2, d3, d4, d5] }
  | _ => none }
def GraphMoreWrongFalsely : Prop := graphMoreRow.holds Try.pinned (OpenSpec.ofChange graphMoreWrong)

/-- 'watchbilllaw20.JobAny': WHATEVER THE INPUT: true; the input reads as it did. -/
def jobAnySpec : ChangeSpec := { name := "jobAny", fn := fun _ => fun
  | [d1, d2, d3] => { results := [.lit (.bool true)], args := [d1, d2, d3] }
  | _ => none }
def jobAnyRow : OpenClaim := { program := "ytofpioacialnkaa", sum := "f597f61250c4caf52a5785cfc369fdcc19c650e97e94d43b7b093a3a8b3a99b9", func := "watchbill/watchbilllaw20.JobAny", spec := "jobAny", unfollowed := true, recurses := true, apart := false }
def JobAnySaid : Prop := jobAnyRow.holds Try.pinned (OpenSpec.ofChange jobAnySpec)

/-- ITS FALSE NEIGHBOUR: 'it returns false'. Refute it at one input. -/
def jobAnyWrong : ChangeSpec := { name := "jobAny", fn := fun _ => fun
  | [d1, d2, d3] => { results := [.lit (.bool false)], args := [d1, d2, d3] }
  | _ => none }
def JobAnyWrongFalsely : Prop := jobAnyRow.holds Try.pinned (OpenSpec.ofChange jobAnyWrong)

/-- 'watchbilllaw20.JobRuns': WHATEVER THE INPUT: true; the input reads as it did. -/
def jobRunsSpec : ChangeSpec := { name := "jobRuns", fn := fun _ => fun
  | [d1, d2] => { results := [.lit (.bool true)], args := [d1, d2] }
  | _ => none }
def jobRunsRow : OpenClaim := { program := "ytofpioacialnkaa", sum := "f597f61250c4caf52a5785cfc369fdcc19c650e97e94d43b7b093a3a8b3a99b9", func := "watchbill/watchbilllaw20.JobRuns", spec := "jobRuns", unfollowed := true, recurses := true, apart := false }
def JobRunsSaid : Prop := jobRunsRow.holds Try.pinned (OpenSpec.ofChange jobRunsSpec)

/-- ITS FALSE NEIGHBOUR: 'it returns false'. Refute it at one input. -/
def jobRunsWrong : ChangeSpec := { name := "jobRuns", fn := fun _ => fun
  | [d1, d2] => { results := [.lit (.bool false)], args := [d1, d2] }
  | _ => none }
def JobRunsWrongFalsely : Prop := jobRunsRow.holds Try.pinned (OpenSpec.ofChange jobRunsWrong)

/-- 'watchbilllaw20.JobHolds': WHATEVER THE INPUT: true; the input reads as it did. -/
def jobHoldsSpec : ChangeSpec := { name := "jobHolds", fn := fun _ => fun
  | [d] => { results := [.lit (.bool true)], args := [d] }
  | _ => none }
def jobHoldsRow : OpenClaim := { program := "ytofpioacialnkaa", sum := "f597f61250c4caf52a5785cfc369fdcc19c650e97e94d43b7b093a3a8b3a99b9", func := "watchbill/watchbilllaw20.JobHolds", spec := "jobHolds", unfollowed := true, recurses := true, apart := false }
def JobHoldsSaid : Prop := jobHoldsRow.holds Try.pinned (OpenSpec.ofChange jobHoldsSpec)

/-- ITS FALSE NEIGHBOUR: 'it returns false'. Refute it at one input. -/
def jobHoldsWrong : ChangeSpec := { name := "jobHolds", fn := fun _ => fun
  | [d] => { results := [.lit (.bool false)], args := [d] }
  | _ => none }
def JobHoldsWrongFalsely : Prop := jobHoldsRow.holds Try.pinned (OpenSpec.ofChange jobHoldsWrong)

/-- 'watchbilllaw20.JobSteps': WHATEVER THE INPUT: true; the input reads as it did. -/
def jobStepsSpec : ChangeSpec := { name := "jobSteps", fn := fun _ => fun
  | [d] => { results := [.lit (.bool true)], args := [d] }
  | _ => none }
def jobStepsRow : OpenClaim := { program := "ytofpioacialnkaa", sum := "f597f61250c4caf52a5785cfc369fdcc19c650e97e94d43b7b093a3a8b3a99b9", func := "watchbill/watchbilllaw20.JobSteps", spec := "jobSteps", unfollowed := true, recurses := true, apart := false }
def JobStepsSaid : Prop := jobStepsRow.holds Try.pinned (OpenSpec.ofChange jobStepsSpec)

/-- ITS FALSE NEIGHBOUR: 'it returns false'. Refute it at one input. -/
def jobStepsWrong : ChangeSpec := { name := "jobSteps", fn := fun _ => fun
  | [d] => { results := [.lit (.bool false)], args := [d] }
  | _ => none }
def JobStepsWrongFalsely : Prop := jobStepsRow.holds Try.pinned (OpenSpec.ofChange jobStepsWrong)

/- THE SECOND FORM. 'bulk': how many values and letters a reading holds, each counted each time it is reached (what is shared counts as often as it is met; a slice's spare places count too). A statement '..UptoSaid' is the law's where the arguments, and the package variables that the reading takes, are together of bulk at most 1048576: NARROWER than '..Said'. Prove '..Said' where nothing that the law and all that it calls make is longer than what came in: it says more and counts as full. Else prove '..UptoSaid'. A law counts once. -/
mutual
def uptoBulk {H : Type} : DataW H → Nat
  | .lit (.string bytes) => bytes.length + 1
  | .lit _ => 1
  | .nil => 1
  | .ptr d => uptoBulk d + 1
  | .slice elems spare => uptoBulkAll elems + uptoBulkAll spare + 1
  | .agg parts => uptoBulkAll parts + 1
  | .iface _ d => uptoBulk d + 1
  | .map entries => uptoBulkEntries entries + 1
  | .held _ => 1
def uptoBulkAll {H : Type} : List (DataW H) → Nat
  | [] => 0
  | d :: r => uptoBulk d + uptoBulkAll r
def uptoBulkEntries {H : Type} : List (Lit × DataW H) → Nat
  | [] => 0
  | x :: r => uptoBulkEntry x + uptoBulkEntries r
def uptoBulkEntry {H : Type} : Lit × DataW H → Nat
  | (.string bytes, d) => bytes.length + uptoBulk d + 1
  | (_, d) => uptoBulk d + 1
 end
def uptoSmall : (H : Type) → List (DataW H) → Bool := fun _ ds => decide (uptoBulkAll ds ≤ 1048576)
def OpenSpec.upto (s : _root_.Go.ChangeSpec) : _root_.Go.OpenSpec := { _root_.Go.OpenSpec.ofChange s with cond := some uptoSmall }

/-- 'watchbilllaw19.GuardApart', WHERE WHAT IT READS IS OF BULK AT MOST 1048576: true; the input reads as it did. -/
def guardApartUptoRow : OpenClaim := { program := "ytofpioacialnkaa", sum := "f597f61250c4caf52a5785cfc369fdcc19c650e97e94d43b7b093a3a8b3a99b9", func := "watchbill/watchbilllaw19.GuardApart", spec := "guardApart", apart := false, narrowed := true }
def GuardApartUptoSaid : Prop := guardApartUptoRow.holds Try.pinned (OpenSpec.upto guardApartSpec)

/-- 'watchbilllaw19.GuardOthers', WHERE WHAT IT READS IS OF BULK AT MOST 1048576: true; the input reads as it did. -/
def guardOthersUptoRow : OpenClaim := { program := "ytofpioacialnkaa", sum := "f597f61250c4caf52a5785cfc369fdcc19c650e97e94d43b7b093a3a8b3a99b9", func := "watchbill/watchbilllaw19.GuardOthers", spec := "guardOthers", apart := false, narrowed := true }
def GuardOthersUptoSaid : Prop := guardOthersUptoRow.holds Try.pinned (OpenSpec.upto guardOthersSpec)

/-- 'watchbilllaw19.GuardPlays', WHERE WHAT IT READS IS OF BULK AT MOST 1048576: true; the input reads as it did. -/
def guardPlaysUptoRow : OpenClaim := { program := "ytofpioacialnkaa", sum := "f597f61250c4caf52a5785cfc369fdcc19c650e97e94d43b7b093a3a8b3a99b9", func := "watchbill/watchbilllaw19.GuardPlays", spec := "guardPlays", inPlace := ["maps.clone"], apart := false, narrowed := true }
def GuardPlaysUptoSaid : Prop := guardPlaysUptoRow.holds Try.pinned (OpenSpec.upto guardPlaysSpec)

/-- 'watchbilllaw18.GraphAny', WHERE WHAT IT READS IS OF BULK AT MOST 1048576: true; the input reads as it did. -/
def graphAnyUptoRow : OpenClaim := { program := "ytofpioacialnkaa", sum := "f597f61250c4caf52a5785cfc369fdcc19c650e97e94d43b7b093a3a8b3a99b9", func := "watchbill/watchbilllaw18.GraphAny", spec := "graphAny", apart := false, narrowed := true }
def GraphAnyUptoSaid : Prop := graphAnyUptoRow.holds Try.pinned (OpenSpec.upto graphAnySpec)

/-- 'watchbilllaw18.GraphLends', WHERE WHAT IT READS IS OF BULK AT MOST 1048576: true; the input reads as it did. -/
def graphLendsUptoRow : OpenClaim := { program := "ytofpioacialnkaa", sum := "f597f61250c4caf52a5785cfc369fdcc19c650e97e94d43b7b093a3a8b3a99b9", func := "watchbill/watchbilllaw18.GraphLends", spec := "graphLends", apart := false, narrowed := true }
def GraphLendsUptoSaid : Prop := graphLendsUptoRow.holds Try.pinned (OpenSpec.upto graphLendsSpec)

/-- 'watchbilllaw18.GraphRow', WHERE WHAT IT READS IS OF BULK AT MOST 1048576: true; the input reads as it did. -/
def graphRowUptoRow : OpenClaim := { program := "ytofpioacialnkaa", sum := "f597f61250c4caf52a5785cfc369fdcc19c650e97e94d43b7b093a3a8b3a99b9", func := "watchbill/watchbilllaw18.GraphRow", spec := "graphRow", apart := false, narrowed := true }
def GraphRowUptoSaid : Prop := graphRowUptoRow.holds Try.pinned (OpenSpec.upto graphRowSpec)

/-- 'watchbilllaw18.GraphMore', WHERE WHAT IT READS IS OF BULK AT MOST 1048576: true; the input reads as it did. -/
def graphMoreUptoRow : OpenClaim := { program := "ytofpioacialnkaa", sum := "f597f61250c4caf52a5785cfc369fdcc19c650e97e94d43b7b093a3a8b3a99b9", func := "watchbill/watchbilllaw18.GraphMore", spec := "graphMore", apart := false, narrowed := true }
def GraphMoreUptoSaid : Prop := graphMoreUptoRow.holds Try.pinned (OpenSpec.upto graphMoreSpec)

/-- 'watchbilllaw20.JobAny', WHERE WHAT IT READS IS OF BULK AT MOST 1048576: true; the input reads as it did. -/
def jobAnyUptoRow : OpenClaim := { program := "ytofpioacialnkaa", sum := "f597f61250c4caf52a5785cfc369fdcc19c650e97e94d43b7b093a3a8b3a99b9", func := "watchbill/watchbilllaw20.JobAny", spec := "jobAny", unfollowed := true, recurses := true, apart := false, narrowed := true }
def JobAnyUptoSaid : Prop := jobAnyUptoRow.holds Try.pinned (OpenSpec.upto jobAnySpec)

/-- 'watchbilllaw20.JobRuns', WHERE WHAT IT READS IS OF BULK AT MOST 1048576: true; the input reads as it did. -/
def jobRunsUptoRow : OpenClaim := { program := "ytofpioacialnkaa", sum := "f597f61250c4caf52a5785cfc369fdcc19c650e97e94d43b7b093a3a8b3a99b9", func := "watchbill/watchbilllaw20.JobRuns", spec := "jobRuns", unfollowed := true, recurses := true, apart := false, narrowed := true }
def JobRunsUptoSaid : Prop := jobRunsUptoRow.holds Try.pinned (OpenSpec.upto jobRunsSpec)

/-- 'watchbilllaw20.JobHolds', WHERE WHAT IT READS IS OF BULK AT MOST 1048576: true; the input reads as it did. -/
def jobHoldsUptoRow : OpenClaim := { program := "ytofpioacialnkaa", sum := "f597f61250c4caf52a5785cfc369fdcc19c650e97e94d43b7b093a3a8b3a99b9", func := "watchbill/watchbilllaw20.JobHolds", spec := "jobHolds", unfollowed := true, recurses := true, apart := false, narrowed := true }
def JobHoldsUptoSaid : Prop := jobHoldsUptoRow.holds Try.pinned (OpenSpec.upto jobHoldsSpec)

/-- 'watchbilllaw20.JobSteps', WHERE WHAT IT READS IS OF BULK AT MOST 1048576: true; the input reads as it did. -/
def jobStepsUptoRow : OpenClaim := { program := "ytofpioacialnkaa", sum := "f597f61250c4caf52a5785cfc369fdcc19c650e97e94d43b7b093a3a8b3a99b9", func := "watchbill/watchbilllaw20.JobSteps", spec := "jobSteps", unfollowed := true, recurses := true, apart := false, narrowed := true }
def JobStepsUptoSaid : Prop := jobStepsUptoRow.holds Try.pinned (OpenSpec.upto jobStepsSpec)

end Rows
end Go.Proofs.Ytofpioacialnkaa
