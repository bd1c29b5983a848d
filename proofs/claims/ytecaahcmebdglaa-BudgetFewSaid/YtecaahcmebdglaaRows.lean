/-
  No cell of these rows narrows 'for every input' (looked for: loops, veiled, ifaces, maps, wideKeys, modest, calm, conditions, laid).
  DERIVED. THE GIVEN ROWS OF THIS SEAT. 11 by the template 'for every input the law returns true; each argument reads behind the call as it read before'; 0 by the template 'total and deterministic' (their statements: YtecaahcmebdglaaTotals.lean).
  GIVEN WITH THE SEED: the statements are not yours to turn. If you find one false, say at which input.
  Laid BY PROGRAM, IN A SANDBOX (cutbox-rows.mjs): the forced cells as the released guide's own fill.sh prints them over the translation 8a434c8cee1f1f47… (all of the seat's roots in one cut). By AI agents, Wed Nov 11 2026. No macro, syntax, notation, axiom, sorry.
-/
import Derived.Test.YtecaahcmebdglaaChecked
import GoSem.Claim
import GoSem.ClaimJoined
import GoSem.ClaimMapViews
import Derived.JoinedTies
import Derived.KernelRfl
namespace Go.Proofs.Ytecaahcmebdglaa
/- THE CELL 'sum', in the pinned program and in every row, IS THE sha256 OF THE DUMP (.gsa) THAT YtecaahcmebdglaaProg.lean LOADS. Nothing in Lean hashes anything: it is a label: what it is worth is what the hold of that sum in a sandbox is worth. -/
noncomputable def Try.pinned : Pinned := { name := "ytecaahcmebdglaa", sum := "8a434c8cee1f1f47446c9641458b3da5211d2f963d7d5d207798c5c9d887d654", checked := Try.checked }
namespace Rows
def none {H : Type} : Left H := { results := [], args := [] }

/-- 'comptorlaw16.QuorumCounts': WHATEVER THE INPUT: true; the input reads as it did. -/
def quorumCountsSpec : ChangeSpec := { name := "quorumCounts", fn := fun _ => fun
  | [d1, d2] => { results := [.lit (.bool true)], args := [d1, d2] }
  | _ => none }
def quorumCountsRow : OpenClaim := { program := "ytecaahcmebdglaa", sum := "8a434c8cee1f1f47446c9641458b3da5211d2f963d7d5d207798c5c9d887d654", func := "comptor/comptorlaw16.QuorumCounts", spec := "quorumCounts", apart := false }
def QuorumCountsSaid : Prop := quorumCountsRow.holds Try.pinned (OpenSpec.ofChange quorumCountsSpec)

/-- ITS FALSE NEIGHBOUR: 'it returns false'. Refute it at one input. -/
def quorumCountsWrong : ChangeSpec := { name := "quorumCounts", fn := fun _ => fun
  | [d1, d2] => { results := [.lit (.bool false)], args := [d1, d2] }
  | _ => none }
def QuorumCountsWrongFalsely : Prop := quorumCountsRow.holds Try.pinned (OpenSpec.ofChange quorumCountsWrong)

/-- 'comptorlaw16.QuorumSets': WHATEVER THE INPUT: true; the input reads as it did. -/
def quorumSetsSpec : ChangeSpec := { name := "quorumSets", fn := fun _ => fun
  | [d1, d2] => { results := [.lit (.bool true)], args := [d1, d2] }
  | _ => none }
def quorumSetsRow : OpenClaim := { program := "ytecaahcmebdglaa", sum := "8a434c8cee1f1f47446c9641458b3da5211d2f963d7d5d207798c5c9d887d654", func := "comptor/comptorlaw16.QuorumSets", spec := "quorumSets", apart := false }
def QuorumSetsSaid : Prop := quorumSetsRow.holds Try.pinned (OpenSpec.ofChange quorumSetsSpec)

/-- ITS FALSE NEIGHBOUR: 'it returns false'. Refute it at one input. -/
def quorumSetsWrong : ChangeSpec := { name := "quorumSets", fn := fun _ => fun
  | [d1, d2] => { results := [.lit (.bool false)], args := [d1, d2] }
  | _ => none }
def QuorumSetsWrongFalsely : Prop := quorumSetsRow.holds Try.pinned (OpenSpec.ofChange quorumSetsWrong)

/-- 'comptorlaw16.QuorumMeets': WHATEVER THE INPUT: true; the input reads as it did. -/
def quorumMeetsSpec : ChangeSpec := { name := "quorumMeets", fn := fun _ => fun
  | [d1, d2, d3] => { results := [.lit (.bool true)], args := [d1, d2, d3] }
  | _ => none }
def quorumMeetsRow : OpenClaim := { program := "ytecaahcmebdglaa", sum := "8a434c8cee1f1f47446c9641458b3da5211d2f963d7d5d207798c5c9d887d654", func := "comptor/comptorlaw16.QuorumMeets", spec := "quorumMeets", apart := false }
def QuorumMeetsSaid : Prop := quorumMeetsRow.holds Try.pinned (OpenSpec.ofChange quorumMeetsSpec)

/-- ITS FALSE NEIGHBOUR: 'it returns false'. Refute it at one input. -/
def quorumMeetsWrong : ChangeSpec := { name := "quorumMeets", fn := fun _ => fun
  | [d1, d2, d3] => { results := [.lit (.bool false)], args := [d1, d2, d3] }
  | _ => none }
def QuorumMeetsWrongFalsely : Prop := quorumMeetsRow.holds Try.pinned (OpenSpec.ofChange quorumMeetsWrong)

/-- 'comptorlaw16.QuorumTurns': WHATEVER THE INPUT: true; the input reads as it did. -/
def quorumTurnsSpec : ChangeSpec := { name := "quorumTurns", fn := fun _ => fun
  | [d1, d2] => { results := [.lit (.bool true)], args := [d1, d2] }
  | _ => none }
def quorumTurnsRow : OpenClaim := { program := "ytecaahcmebdglaa", sum := "8a434c8cee1f1f47446c9641458b3da5211d2f963d7d5d207798c5c9d887d654", func := "comptor/comptorlaw16.QuorumTurns", spec := "quorumTurns", apart := false }
def QuorumTurnsSaid : Prop := quorumTurnsRow.holds Try.pinned (OpenSpec.ofChange quorumTurnsSpec)

/-- ITS FALSE NEIGHBOUR: 'it returns false'. Refute it at one input. -/
def quorumTurnsWrong : ChangeSpec := { name := "quorumTurns", fn := fun _ => fun
  | [d1, d2] => { results := [.lit (.bool false)], args := [d1, d2] }
  | _ => none }
def QuorumTurnsWrongFalsely : Prop := quorumTurnsRow.holds Try.pinned (OpenSpec.ofChange quorumTurnsWrong)

/-- 'comptorlaw25.BudgetLess': WHATEVER THE INPUT: true; the input reads as it did. -/
def budgetLessSpec : ChangeSpec := { name := "budgetLess", fn := fun _ => fun
  | [d1, d2, d3] => { results := [.lit (.bool true)], args := [d1, d2, d3] }
  | _ => none }
def budgetLessRow : OpenClaim := { program := "ytecaahcmebdglaa", sum := "8a434c8cee1f1f47446c9641458b3da5211d2f963d7d5d207798c5c9d887d654", func := "comptor/comptorlaw25.BudgetLess", spec := "budgetLess", apart := false }
def BudgetLessSaid : Prop := budgetLessRow.holds Try.pinned (OpenSpec.ofChange budgetLessSpec)

/-- ITS FALSE NEIGHBOUR: 'it returns false'. Refute it at one input. -/
def budgetLessWrong : ChangeSpec := { name := "budgetLess", fn := fun _ => fun
  | [d1, d2, d3] => { results := [.lit (.bool false)], args := [d1, d2, d3] }
  | _ => none }
def BudgetLessWrongFalsely : Prop := budgetLessRow.holds Try.pinned (OpenSpec.ofChange budgetLessWrong)

/-- 'comptorlaw25.BudgetReads': WHATEVER THE INPUT: true; the input reads as it did. -/
def budgetReadsSpec : ChangeSpec := { name := "budgetReads", fn := fun _ => fun
  | [d1, d2] => { results := [.lit (.bool true)], args := [d1, d2] }
  | _ => none }
def budgetReadsRow : OpenClaim := { program := "ytecaahcmebdglaa", sum := "8a434c8cee1f1f47446c9641458b3da5211d2f963d7d5d207798c5c9d887d654", func := "comptor/comptorlaw25.BudgetReads", spec := "budgetReads", apart := false }
def BudgetReadsSaid : Prop := budgetReadsRow.holds Try.pinned (OpenSpec.ofChange budgetReadsSpec)

/-- ITS FALSE NEIGHBOUR: 'it returns false'. Refute it at one input. -/
def budgetReadsWrong : ChangeSpec := { name := "budgetReads", fn := fun _ => fun
  | [d1, d2] => { results := [.lit (.bool false)], args := [d1, d2] }
  | _ => none }
def BudgetReadsWrongFalsely : Prop := budgetReadsRow.holds Try.pinned (OpenSpec.ofChange budgetReadsWrong)

/-- 'comptorlaw25.BudgetFew': WHATEVER THE INPUT: true; the input reads as it did. -/
def budgetFewSpec : ChangeSpec := { name := "budgetFew", fn := fun _ => fun
  | [d1, d2, d3, d4] => { results := [.lit (.bool true)], args := [d1, d2, d3, d4] }
  | _ => none }
def budgetFewRow : OpenClaim := { program := "ytecaahcmebdglaa", sum := "8a434c8cee1f1f47446c9641458b3da5211d2f963d7d5d207798c5c9d887d654", func := "comptor/comptorlaw25.BudgetFew", spec := "budgetFew", apart := false }
def BudgetFewSaid : Prop := budgetFewRow.holds Try.pinned (OpenSpec.ofChange budgetFewSpec)

/-- ITS FALSE NEIGHBOUR: 'it returns false'. Refute it at one input. -/
def budgetFewWrong : ChangeSpec := { name := "budgetFew", fn := fun _ => fun
  | [d1, d2, d3, d4] => { results := [.lit (.bool false)], args := [d1, d2, d3, d4] }
  | _ => none }
def BudgetFewWrongFalsely : Prop := budgetFewRow.holds Try.pinned (OpenSpec.ofChange budgetFewWrong)

/-- 'comptorlaw19.PipeSure': WHATEVER THE INPUT: true; the input reads as it did. -/
def pipeSureSpec : ChangeSpec := { name := "pipeSure", fn := fun _ => fun
  | [d1, d2, d3, d4] => { results := [.lit (.bool true)], args := [d1, d2, d3, d4] }
  | _ => none }
def pipeSureRow : OpenClaim := { program := "ytecaahcmebdglaa", sum := "8a434c8cee1f1f47446c9641458b3da5211d2f963d7d5d207798c5c9d887d654", func := "comptor/comptorlaw19.PipeSure", spec := "pipeSure", apart := false }
def PipeSureSaid : Prop := pipeSureRow.holds Try.pinned (OpenSpec.ofChange pipeSureSpec)

/-- ITS FALSE NEIGHBOUR: 'it returns false'. Refute it at one input. -/
def pipeSureWrong : ChangeSpec := { name := "pipeSure", fn := fun _ => fun
  | [d1, d2, d3, d4] => { results := [.lit (.bool false)], args := [d1, d2, d3, d4] }
  | _ => none }
def PipeSureWrongFalsely : Prop := pipeSureRow.holds Try.pinned (OpenSpec.ofChange pipeSureWrong)

/-- 'comptorlaw19.PipeDue': WHATEVER THE INPUT: true; the input reads as it did. -/
def pipeDueSpec : ChangeSpec := { name := "pipeDue", fn := fun _ => fun
  | [d1, d2, d3, d4, d5] => { results := [.lit (.bool true)], args := [d1, d2, d3, d4, d5] }
  | _ => none }
def pipeDueRow : OpenClaim := { program := "ytecaahcmebdglaa", sum := "8a434c8cee1f1f47446c9641458b3da5211d2f963d7d5d207798c5c9d887d654", func := "comptor/comptorlaw19.PipeDue", spec := "pipeDue", apart := false }
def PipeDueSaid : Prop := pipeDueRow.holds Try.pinned (OpenSpec.ofChange pipeDueSpec)

/-- ITS FALSE NEIGHBOUR: 'it returns false'. Refute it at one input. -/
def pipeDueWrong : ChangeSpec := { name := "pipeDue", fn := fun _ => fun
  | [d1, d2, d3, d4, d5] => { results := [.lit (.bool false)], args := [d1, d2, d3, d4, d5] }
  | _ => none }
def PipeDueWrongFalsely : Prop := pipeDueRow.holds Try.pinned (OpenSpec.ofChange pipeDueWrong)

/-- 'comptorlaw19.PipePlays': WHATEVER THE INPUT: true; the input reads as it did. -/
def pipePlaysSpec : ChangeSpec := { name := "pipePlays", fn := fun _ => fun
  | [d1, d2, d3, d4, d5] => { results := [.lit (.bool true)], args := [d1, d2, d3, d4, d5] }
  | _ => none }
def pipePlaysRow : OpenClaim := { program := "ytecaahcmebdglaa", sum := "8a434c8cee1f1f47446c9641458b3da5211d2f963d7d5d207798c5c9d887d654", func := "comptor/comptorlaw19.PipePlays", spec := "pipePlays", apart := false }
def PipePlaysSaid : Prop := pipePlaysRow.holds Try.pinned (OpenSpec.ofChange pipePlaysSpec)

/-- ITS FALSE NEIGHBOUR: 'it returns false'. Refute it at one input. -/
def pipePlaysWrong : ChangeSpec := { name := "pipePlays", fn := fun _ => fun
  | [d1, d2, d3, d4, d5] => { results := [.lit (.bool false)], args := [d1, d2, d3, d4, d5] }
  | _ => none }
def PipePlaysWrongFalsely : Prop := pipePlaysRow.holds Try.pinned (OpenSpec.ofChange pipePlaysWrong)

/-- 'comptorlaw19.PipeNil': WHATEVER THE INPUT: true; the input reads as it did. -/
def pipeNilSpec : ChangeSpec := { name := "pipeNil", fn := fun _ => fun
  | [d] => { results := [.lit (.bool true)], args := [d] }
  | _ => none }
def pipeNilRow : OpenClaim := { program := "ytecaahcmebdglaa", sum := "8a434c8cee1f1f47446c9641458b3da5211d2f963d7d5d207798c5c9d887d654", func := "comptor/comptorlaw19.PipeNil", spec := "pipeNil", apart := false }
def PipeNilSaid : Prop := pipeNilRow.holds Try.pinned (OpenSpec.ofChange pipeNilSpec)

/-- ITS FALSE NEIGHBOUR: 'it returns false'. Refute it at one input. -/
def pipeNilWrong : ChangeSpec := { name := "pipeNil", fn := fun _ => fun
  | [d] => { results := [.lit (.bool false)], args := [d] }
  | _ => none }
def PipeNilWrongFalsely : Prop := pipeNilRow.holds Try.pinned (OpenSpec.ofChange pipeNilWrong)

/- THE SECOND FORM. 'bulk': how many values and letters a reading holds, each counted each time it is reached (what is shared counts as often as it is met; a slice's spare places count too). A statement '..UptoSaid' is the law's where the arguments, and the package variables that the reading takes, are together of bulk at most 1048576: NARROWER than '..Said'. Prove '..Said' where nothing that the law and all that it calls make is longer than what came in: it says more and counts as full. Else prove '..UptoSaid'. A law counts once. -/
mutual
def uptoBulk {H : Type} : DataW H → Nat
  | .lit (.string bytes) => bytes.length + 1
  | .lit _ => 1
  | .nil => 1
  | .ptr d => uptoBulk d + 1
  | .slice elems spare => uptoBulkAll elems + uptoBulkAll spare + 1
  | .agg parts => uptoBulkAll parts + 1
  | .iface _ d => uptoBulk d + 1
  | .map entries => uptoBulkEntries entries + 1
  | .held _ => 1
def uptoBulkAll {H : Type} : List (DataW H) → Nat
  | [] => 0
  | d :: r => uptoBulk d + uptoBulkAll r
def uptoBulkEntries {H : Type} : List (Lit × DataW H) → Nat
  | [] => 0
  | x :: r => uptoBulkEntry x + uptoBulkEntries r
def uptoBulkEntry {H : Type} : Lit × DataW H → Nat
  | (.string bytes, d) => bytes.length + uptoBulk d + 1
  | (_, d) => uptoBulk d + 1
 end
def uptoSmall : (H : Type) → List (DataW H) → Bool := fun _ ds => decide (uptoBulkAll ds ≤ 1048576)
def OpenSpec.upto (s : _root_.Go.ChangeSpec) : _root_.Go.OpenSpec := { _root_.Go.OpenSpec.ofChange s with cond := some uptoSmall }

/-- 'comptorlaw16.QuorumCounts', WHERE WHAT IT READS IS OF BULK AT MOST 1048576: true; the input reads as it did. -/
def quorumCountsUptoRow : OpenClaim := { program := "ytecaahcmebdglaa", sum := "8a434c8cee1f1f47446c9641458b3da5211d2f963d7d5d207798c5c9d887d654", func := "comptor/comptorlaw16.QuorumCounts", spec := "quorumCounts", apart := false, narrowed := true }
def QuorumCountsUptoSaid : Prop := quorumCountsUptoRow.holds Try.pinned (OpenSpec.upto quorumCountsSpec)

/-- 'comptorlaw16.QuorumSets', WHERE WHAT IT READS IS OF BULK AT MOST 1048576: true; the input reads as it did. -/
def quorumSetsUptoRow : OpenClaim := { program := "ytecaahcmebdglaa", sum := "8a434c8cee1f1f47446c9641458b3da5211d2f963d7d5d207798c5c9d887d654", func := "comptor/comptorlaw16.QuorumSets", spec := "quorumSets", apart := false, narrowed := true }
def QuorumSetsUptoSaid : Prop := quorumSetsUptoRow.holds Try.pinned (OpenSpec.upto quorumSetsSpec)

/-- 'comptorlaw16.QuorumMeets', WHERE WHAT IT READS IS OF BULK AT MOST 1048576: true; the input reads as it did. -/
def quorumMeetsUptoRow : OpenClaim := { program := "ytecaahcmebdglaa", sum := "8a434c8cee1f1f47446c9641458b3da5211d2f963d7d5d207798c5c9d887d654", func := "comptor/comptorlaw16.QuorumMeets", spec := "quorumMeets", apart := false, narrowed := true }
def QuorumMeetsUptoSaid : Prop := quorumMeetsUptoRow.holds Try.pinned (OpenSpec.upto quorumMeetsSpec)

/-- 'comptorlaw16.QuorumTurns', WHERE WHAT IT READS IS OF BULK AT MOST 1048576: true; the input reads as it did. -/
def quorumTurnsUptoRow : OpenClaim := { program := "ytecaahcmebdglaa", sum := "8a434c8cee1f1f47446c9641458b3da5211d2f963d7d5d207798c5c9d887d654", func := "comptor/comptorlaw16.QuorumTurns", spec := "quorumTurns", apart := false, narrowed := true }
def QuorumTurnsUptoSaid : Prop := quorumTurnsUptoRow.holds Try.pinned (OpenSpec.upto quorumTurnsSpec)

/-- 'comptorlaw25.BudgetLess', WHERE WHAT IT READS IS OF BULK AT MOST 1048576: true; the input reads as it did. -/
def budgetLessUptoRow : OpenClaim := { program := "ytecaahcmebdglaa", sum := "8a434c8cee1f1f47446c9641458b3da5211d2f963d7d5d207798c5c9d887d654", func := "comptor/comptorlaw25.BudgetLess", spec := "budgetLess", apart := false, narrowed := true }
def BudgetLessUptoSaid : Prop := budgetLessUptoRow.holds Try.pinned (OpenSpec.upto budgetLessSpec)

/-- 'comptorlaw25.BudgetReads', WHERE WHAT IT READS IS OF BULK AT MOST 1048576: true; the input reads as it did. -/
def budgetReadsUptoRow : OpenClaim := { program := "ytecaahcmebdglaa", sum := "8a434c8cee1f1f47446c9641458b3da5211d2f963d7d5d207798c5c9d887d654", func := "comptor/comptorlaw25.BudgetReads", spec := "budgetReads", apart := false, narrowed := true }
def BudgetReadsUptoSaid : Prop := budgetReadsUptoRow.holds Try.pinned (OpenSpec.upto budgetReadsSpec)

/-- 'comptorlaw25.BudgetFew', WHERE WHAT IT READS IS OF BULK AT MOST 1048576: true; the input reads as it did. -/
def budgetFewUptoRow : OpenClaim := { program := "ytecaahcmebdglaa", sum := "8a434c8cee1f1f47446c9641458b3da5211d2f963d7d5d207798c5c9d887d654", func := "comptor/comptorlaw25.BudgetFew", spec := "budgetFew", apart := false, narrowed := true }
def BudgetFewUptoSaid : Prop := budgetFewUptoRow.holds Try.pinned (OpenSpec.upto budgetFewSpec)

/-- 'comptorlaw19.PipeSure', WHERE WHAT IT READS IS OF BULK AT MOST 1048576: true; the input reads as it did. -/
def pipeSureUptoRow : OpenClaim := { program := "ytecaahcmebdglaa", sum := "8a434c8cee1f1f47446c9641458b3da5211d2f963d7d5d207798c5c9d887d654", func := "comptor/comptorlaw19.PipeSure", spec := "pipeSure", apart := false, narrowed := true }
def PipeSureUptoSaid : Prop := pipeSureUptoRow.holds Try.pinned (OpenSpec.upto pipeSureSpec)

/-- 'comptorlaw19.PipeDue', WHERE WHAT IT READS IS OF BULK AT MOST 1048576: true; the input reads as it did. -/
def pipeDueUptoRow : OpenClaim := { program := "ytecaahcmebdglaa", sum := "8a434c8cee1f1f47446c9641458b3da5211d2f963d7d5d207798c5c9d887d654", func := "comptor/comptorlaw19.PipeDue", spec := "pipeDue", apart := false, narrowed := true }
def PipeDueUptoSaid : Prop := pipeDueUptoRow.holds Try.pinned (OpenSpec.upto pipeDueSpec)

/-- 'comptorlaw19.PipePlays', WHERE WHAT IT READS IS OF BULK AT MOST 1048576: true; the input reads as it did. -/
def pipePlaysUptoRow : OpenClaim := { program := "ytecaahcmebdglaa", sum := "8a434c8cee1f1f47446c9641458b3da5211d2f963d7d5d207798c5c9d887d654", func := "comptor/comptorlaw19.PipePlays", spec := "pipePlays", apart := false, narrowed := true }
def PipePlaysUptoSaid : Prop := pipePlaysUptoRow.holds Try.pinned (OpenSpec.upto pipePlaysSpec)

/-- 'comptorlaw19.PipeNil', WHERE WHAT IT READS IS OF BULK AT MOST 1048576: true; the input reads as it did. -/
def pipeNilUptoRow : OpenClaim := { program := "ytecaahcmebdglaa", sum := "8a434c8cee1f1f47446c9641458b3da5211d2f963d7d5d207798c5c9d887d654", func := "comptor/comptorlaw19.PipeNil", spec := "pipeNil", apart := false, narrowed := true }
def PipeNilUptoSaid : Prop := pipeNilUptoRow.holds Try.pinned (OpenSpec.upto pipeNilSpec)

end Rows
end Go.Proofs.Ytecaahcmebdglaa
