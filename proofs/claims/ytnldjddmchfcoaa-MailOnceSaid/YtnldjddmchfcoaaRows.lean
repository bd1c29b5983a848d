/-
  No cell of these rows narrows 'for every input' (looked for: loops, veiled, ifaces, maps, wideKeys, modest, calm, conditions, laid).
  DERIVED. THE GIVEN ROWS OF THIS SEAT. 8 by the template 'for every input the law returns true; each argument reads behind the call as it read before'; 0 by the template 'total and deterministic' (their statements: YtnldjddmchfcoaaTotals.lean).
  GIVEN WITH THE SEED: the statements are not yours to turn. If you find one false, say at which input.
  Laid BY PROGRAM, IN A SANDBOX (cutbox-rows.mjs): the forced cells as the released guide's own fill.sh prints them over the translation 730a4df6a71dd0ac… (all of the seat's roots in one cut). By AI agents, Wed Nov 11 2026. No macro, syntax, notation, axiom, sorry.
-/
import Derived.Test.YtnldjddmchfcoaaChecked
import GoSem.Claim
import GoSem.ClaimJoined
import GoSem.ClaimMapViews
import Derived.JoinedTies
import Derived.KernelRfl
namespace Go.Proofs.Ytnldjddmchfcoaa
/- THE CELL 'sum', in the pinned program and in every row, IS THE sha256 OF THE DUMP (.gsa) THAT YtnldjddmchfcoaaProg.lean LOADS. Nothing in Lean hashes anything: it is a label: what it is worth is what the hold of that sum in a sandbox is worth. -/
noncomputable def Try.pinned : Pinned := { name := "ytnldjddmchfcoaa", sum := "730a4df6a71dd0ac3da4cf22852bd659f54d0551000a1b3356e25d2a2b293d35", checked := Try.checked }
namespace Rows
def none {H : Type} : Left H := { results := [], args := [] }

/-- 'comptorlaw01.NumOwn': WHATEVER THE INPUT: true; the input reads as it did. -/
def numOwnSpec : ChangeSpec := { name := "numOwn", fn := fun _ => fun
  | [d1, d2] => { results := [.lit (.bool true)], args := [d1, d2] }
  | _ => none }
def numOwnRow : OpenClaim := { program := "ytnldjddmchfcoaa", sum := "730a4df6a71dd0ac3da4cf22852bd659f54d0551000a1b3356e25d2a2b293d35", func := "comptor/comptorlaw01.NumOwn", spec := "numOwn", inPlace := ["internal/bytealg.MakeNoZero"], apart := false }
def NumOwnSaid : Prop := numOwnRow.holds Try.pinned (OpenSpec.ofChange numOwnSpec)

/-- ITS FALSE NEIGHBOUR: 'it returns false'. Refute it at one input. -/
def numOwnWrong : ChangeSpec := { name := "numOwn", fn := fun _ => fun
  | [d1, d2] => { results := [.lit (.bool false)], args := [d1, d2] }
  | _ => none }
def NumOwnWrongFalsely : Prop := numOwnRow.holds Try.pinned (OpenSpec.ofChange numOwnWrong)

/-- 'comptorlaw20.MailPlays': WHATEVER THE INPUT: true; the input reads as it did. -/
def mailPlaysSpec : ChangeSpec := { name := "mailPlays", fn := fun _ => fun
  | [d1, d2] => { results := [.lit (.bool true)], args := [d1, d2] }
  | _ => none }
def mailPlaysRow : OpenClaim := { program := "ytnldjddmchfcoaa", sum := "730a4df6a71dd0ac3da4cf22852bd659f54d0551000a1b3356e25d2a2b293d35", func := "comptor/comptorlaw20.MailPlays", spec := "mailPlays", apart := false }
def MailPlaysSaid : Prop := mailPlaysRow.holds Try.pinned (OpenSpec.ofChange mailPlaysSpec)

/-- ITS FALSE NEIGHBOUR: 'it returns false'. Refute it at one input. -/
def mailPlaysWrong : ChangeSpec := { name := "mailPlays", fn := fun _ => fun
  | [d1, d2] => { results := [.lit (.bool false)], args := [d1, d2] }
  | _ => none }
def MailPlaysWrongFalsely : Prop := mailPlaysRow.holds Try.pinned (OpenSpec.ofChange mailPlaysWrong)

/-- 'comptorlaw20.MailOnce': WHATEVER THE INPUT: true; the input reads as it did. -/
def mailOnceSpec : ChangeSpec := { name := "mailOnce", fn := fun _ => fun
  | [d1, d2] => { results := [.lit (.bool true)], args := [d1, d2] }
  | _ => none }
def mailOnceRow : OpenClaim := { program := "ytnldjddmchfcoaa", sum := "730a4df6a71dd0ac3da4cf22852bd659f54d0551000a1b3356e25d2a2b293d35", func := "comptor/comptorlaw20.MailOnce", spec := "mailOnce", apart := false }
def MailOnceSaid : Prop := mailOnceRow.holds Try.pinned (OpenSpec.ofChange mailOnceSpec)

/-- ITS FALSE NEIGHBOUR: 'it returns false'. Refute it at one input. -/
def mailOnceWrong : ChangeSpec := { name := "mailOnce", fn := fun _ => fun
  | [d1, d2] => { results := [.lit (.bool false)], args := [d1, d2] }
  | _ => none }
def MailOnceWrongFalsely : Prop := mailOnceRow.holds Try.pinned (OpenSpec.ofChange mailOnceWrong)

/-- 'comptorlaw20.MailNil': WHATEVER THE INPUT: true; the input reads as it did. -/
def mailNilSpec : ChangeSpec := { name := "mailNil", fn := fun _ => fun
  | [d] => { results := [.lit (.bool true)], args := [d] }
  | _ => none }
def mailNilRow : OpenClaim := { program := "ytnldjddmchfcoaa", sum := "730a4df6a71dd0ac3da4cf22852bd659f54d0551000a1b3356e25d2a2b293d35", func := "comptor/comptorlaw20.MailNil", spec := "mailNil", apart := false }
def MailNilSaid : Prop := mailNilRow.holds Try.pinned (OpenSpec.ofChange mailNilSpec)

/-- ITS FALSE NEIGHBOUR: 'it returns false'. Refute it at one input. -/
def mailNilWrong : ChangeSpec := { name := "mailNil", fn := fun _ => fun
  | [d] => { results := [.lit (.bool false)], args := [d] }
  | _ => none }
def MailNilWrongFalsely : Prop := mailNilRow.holds Try.pinned (OpenSpec.ofChange mailNilWrong)

/-- 'comptorlaw01.NumPuts': WHATEVER THE INPUT: true; the input reads as it did. -/
def numPutsSpec : ChangeSpec := { name := "numPuts", fn := fun _ => fun
  | [d1, d2, d3] => { results := [.lit (.bool true)], args := [d1, d2, d3] }
  | _ => none }
def numPutsRow : OpenClaim := { program := "ytnldjddmchfcoaa", sum := "730a4df6a71dd0ac3da4cf22852bd659f54d0551000a1b3356e25d2a2b293d35", func := "comptor/comptorlaw01.NumPuts", spec := "numPuts", inPlace := ["internal/bytealg.MakeNoZero"], apart := false }
def NumPutsSaid : Prop := numPutsRow.holds Try.pinned (OpenSpec.ofChange numPutsSpec)

/-- ITS FALSE NEIGHBOUR: 'it returns false'. Refute it at one input. -/
def numPutsWrong : ChangeSpec := { name := "numPuts", fn := fun _ => fun
  | [d1, d2, d3] => { results := [.lit (.bool false)], args := [d1, d2, d3] }
  | _ => none }
def NumPutsWrongFalsely : Prop := numPutsRow.holds Try.pinned (OpenSpec.ofChange numPutsWrong)

/-- 'comptorlaw01.NumTakes': WHATEVER THE INPUT: true; the input reads as it did. -/
def numTakesSpec : ChangeSpec := { name := "numTakes", fn := fun _ => fun
  | [d1, d2, d3] => { results := [.lit (.bool true)], args := [d1, d2, d3] }
  | _ => none }
def numTakesRow : OpenClaim := { program := "ytnldjddmchfcoaa", sum := "730a4df6a71dd0ac3da4cf22852bd659f54d0551000a1b3356e25d2a2b293d35", func := "comptor/comptorlaw01.NumTakes", spec := "numTakes", inPlace := ["internal/bytealg.MakeNoZero"], apart := false }
def NumTakesSaid : Prop := numTakesRow.holds Try.pinned (OpenSpec.ofChange numTakesSpec)

/-- ITS FALSE NEIGHBOUR: 'it returns false'. Refute it at one input. -/
def numTakesWrong : ChangeSpec := { name := "numTakes", fn := fun _ => fun
  | [d1, d2, d3] => { results := [.lit (.bool false)], args := [d1, d2, d3] }
  | _ => none }
def NumTakesWrongFalsely : Prop := numTakesRow.holds Try.pinned (OpenSpec.ofChange numTakesWrong)

/-- 'comptorlaw01.NumTexts': WHATEVER THE INPUT: true; the input reads as it did. -/
def numTextsSpec : ChangeSpec := { name := "numTexts", fn := fun _ => fun
  | [d1, d2, d3, d4] => { results := [.lit (.bool true)], args := [d1, d2, d3, d4] }
  | _ => none }
def numTextsRow : OpenClaim := { program := "ytnldjddmchfcoaa", sum := "730a4df6a71dd0ac3da4cf22852bd659f54d0551000a1b3356e25d2a2b293d35", func := "comptor/comptorlaw01.NumTexts", spec := "numTexts", inPlace := ["internal/bytealg.MakeNoZero"], apart := false }
def NumTextsSaid : Prop := numTextsRow.holds Try.pinned (OpenSpec.ofChange numTextsSpec)

/-- ITS FALSE NEIGHBOUR: 'it returns false'. Refute it at one input. -/
def numTextsWrong : ChangeSpec := { name := "numTexts", fn := fun _ => fun
  | [d1, d2, d3, d4] => { results := [.lit (.bool false)], args := [d1, d2, d3, d4] }
  | _ => none }
def NumTextsWrongFalsely : Prop := numTextsRow.holds Try.pinned (OpenSpec.ofChange numTextsWrong)

/-- 'comptorlaw01.NumReads': WHATEVER THE INPUT: true; the input reads as it did. -/
def numReadsSpec : ChangeSpec := { name := "numReads", fn := fun _ => fun
  | [d1, d2, d3] => { results := [.lit (.bool true)], args := [d1, d2, d3] }
  | _ => none }
def numReadsRow : OpenClaim := { program := "ytnldjddmchfcoaa", sum := "730a4df6a71dd0ac3da4cf22852bd659f54d0551000a1b3356e25d2a2b293d35", func := "comptor/comptorlaw01.NumReads", spec := "numReads", inPlace := ["internal/bytealg.MakeNoZero"], apart := false }
def NumReadsSaid : Prop := numReadsRow.holds Try.pinned (OpenSpec.ofChange numReadsSpec)

/-- ITS FALSE NEIGHBOUR: 'it returns false'. Refute it at one input. -/
def numReadsWrong : ChangeSpec := { name := "numReads", fn := fun _ => fun
  | [d1, d2, d3] => { results := [.lit (.bool false)], args := [d1, d2, d3] }
  | _ => none }
def NumReadsWrongFalsely : Prop := numReadsRow.holds Try.pinned (OpenSpec.ofChange numReadsWrong)

/- THE SECOND FORM. 'bulk': how many values and letters a reading holds, each counted each time it is reached (what is shared counts as often as it is met; a slice's spare places count too). A statement '..UptoSaid' is the law's where the arguments, and the package variables that the reading takes, are together of bulk at most 1048576: NARROWER than '..Said'. Prove '..Said' where nothing that the law and all that it calls make is longer than what came in: it says more and counts as full. Else prove '..UptoSaid'. A law counts once. -/
mutual
def uptoBulk {H : Type} : DataW H → Nat
  | .lit (.string bytes) => bytes.length + 1
  | .lit _ => 1
  | .nil => 1
  | .ptr d => uptoBulk d + 1
  | .slice elems spare => uptoBulkAll elems + uptoBulkAll spare + 1
  | .agg parts => uptoBulkAll parts + 1
  | .iface _ d => uptoBulk d + 1
  | .map entries => uptoBulkEntries entries + 1
  | .held _ => 1
def uptoBulkAll {H : Type} : List (DataW H) → Nat
  | [] => 0
  | d :: r => uptoBulk d + uptoBulkAll r
def uptoBulkEntries {H : Type} : List (Lit × DataW H) → Nat
  | [] => 0
  | x :: r => uptoBulkEntry x + uptoBulkEntries r
def uptoBulkEntry {H : Type} : Lit × DataW H → Nat
  | (.string bytes, d) => bytes.length + uptoBulk d + 1
  | (_, d) => uptoBulk d + 1
 end
def uptoSmall : (H : Type) → List (DataW H) → Bool := fun _ ds => decide (uptoBulkAll ds ≤ 1048576)
def OpenSpec.upto (s : _root_.Go.ChangeSpec) : _root_.Go.OpenSpec := { _root_.Go.OpenSpec.ofChange s with cond := some uptoSmall }

/-- 'comptorlaw01.NumOwn', WHERE WHAT IT READS IS OF BULK AT MOST 1048576: true; the input reads as it did. -/
def numOwnUptoRow : OpenClaim := { program := "ytnldjddmchfcoaa", sum := "730a4df6a71dd0ac3da4cf22852bd659f54d0551000a1b3356e25d2a2b293d35", func := "comptor/comptorlaw01.NumOwn", spec := "numOwn", inPlace := ["internal/bytealg.MakeNoZero"], apart := false, narrowed := true }
def NumOwnUptoSaid : Prop := numOwnUptoRow.holds Try.pinned (OpenSpec.upto numOwnSpec)

/-- 'comptorlaw20.MailPlays', WHERE WHAT IT READS IS OF BULK AT MOST 1048576: true; the input reads as it did. -/
def mailPlaysUptoRow : OpenClaim := { program := "ytnldjddmchfcoaa", sum := "730a4df6a71dd0ac3da4cf22852bd659f54d0551000a1b3356e25d2a2b293d35", func := "comptor/comptorlaw20.MailPlays", spec := "mailPlays", apart := false, narrowed := true }
def MailPlaysUptoSaid : Prop := mailPlaysUptoRow.holds Try.pinned (OpenSpec.upto mailPlaysSpec)

/-- 'comptorlaw20.MailOnce', WHERE WHAT IT READS IS OF BULK AT MOST 1048576: true; the input reads as it did. -/
def mailOnceUptoRow : OpenClaim := { program := "ytnldjddmchfcoaa", sum := "730a4df6a71dd0ac3da4cf22852bd659f54d0551000a1b3356e25d2a2b293d35", func := "comptor/comptorlaw20.MailOnce", spec := "mailOnce", apart := false, narrowed := true }
def MailOnceUptoSaid : Prop := mailOnceUptoRow.holds Try.pinned (OpenSpec.upto mailOnceSpec)

/-- 'comptorlaw20.MailNil', WHERE WHAT IT READS IS OF BULK AT MOST 1048576: true; the input reads as it did. -/
def mailNilUptoRow : OpenClaim := { program := "ytnldjddmchfcoaa", sum := "730a4df6a71dd0ac3da4cf22852bd659f54d0551000a1b3356e25d2a2b293d35", func := "comptor/comptorlaw20.MailNil", spec := "mailNil", apart := false, narrowed := true }
def MailNilUptoSaid : Prop := mailNilUptoRow.holds Try.pinned (OpenSpec.upto mailNilSpec)

/-- 'comptorlaw01.NumPuts', WHERE WHAT IT READS IS OF BULK AT MOST 1048576: true; the input reads as it did. -/
def numPutsUptoRow : OpenClaim := { program := "ytnldjddmchfcoaa", sum := "730a4df6a71dd0ac3da4cf22852bd659f54d0551000a1b3356e25d2a2b293d35", func := "comptor/comptorlaw01.NumPuts", spec := "numPuts", inPlace := ["internal/bytealg.MakeNoZero"], apart := false, narrowed := true }
def NumPutsUptoSaid : Prop := numPutsUptoRow.holds Try.pinned (OpenSpec.upto numPutsSpec)

/-- 'comptorlaw01.NumTakes', WHERE WHAT IT READS IS OF BULK AT MOST 1048576: true; the input reads as it did. -/
def numTakesUptoRow : OpenClaim := { program := "ytnldjddmchfcoaa", sum := "730a4df6a71dd0ac3da4cf22852bd659f54d0551000a1b3356e25d2a2b293d35", func := "comptor/comptorlaw01.NumTakes", spec := "numTakes", inPlace := ["internal/bytealg.MakeNoZero"], apart := false, narrowed := true }
def NumTakesUptoSaid : Prop := numTakesUptoRow.holds Try.pinned (OpenSpec.upto numTakesSpec)

/-- 'comptorlaw01.NumTexts', WHERE WHAT IT READS IS OF BULK AT MOST 1048576: true; the input reads as it did. -/
def numTextsUptoRow : OpenClaim := { program := "ytnldjddmchfcoaa", sum := "730a4df6a71dd0ac3da4cf22852bd659f54d0551000a1b3356e25d2a2b293d35", func := "comptor/comptorlaw01.NumTexts", spec := "numTexts", inPlace := ["internal/bytealg.MakeNoZero"], apart := false, narrowed := true }
def NumTextsUptoSaid : Prop := numTextsUptoRow.holds Try.pinned (OpenSpec.upto numTextsSpec)

/-- 'comptorlaw01.NumReads', WHERE WHAT IT READS IS OF BULK AT MOST 1048576: true; the input reads as it did. -/
def numReadsUptoRow : OpenClaim := { program := "ytnldjddmchfcoaa", sum := "730a4df6a71dd0ac3da4cf22852bd659f54d0551000a1b3356e25d2a2b293d35", func := "comptor/comptorlaw01.NumReads", spec := "numReads", inPlace := ["internal/bytealg.MakeNoZero"], apart := false, narrowed := true }
def NumReadsUptoSaid : Prop := numReadsUptoRow.holds Try.pinned (OpenSpec.upto numReadsSpec)

end Rows
end Go.Proofs.Ytnldjddmchfcoaa
