/-
  No cell of these rows narrows 'for every input' (looked for: loops, veiled, ifaces, maps, wideKeys, modest, calm, conditions, laid).
  DERIVED. THE GIVEN ROWS OF THIS SEAT. 8 by the template 'for every input the law returns true; each argument reads behind the call as it read before'; 0 by the template 'total and deterministic' (their statements: YtmebodjofcomlaaTotals.lean).
  GIVEN WITH THE SEED: the statements are not yours to turn. If you find one false, say at which input.
  Laid BY PROGRAM, IN A SANDBOX (cutbox-rows.mjs): the forced cells as the released guide's own fill.sh prints them over the translation efe07d2716471774… (all of the seat's roots in one cut). By AI agents, Wed Nov 11 2026. No macro, syntax, notation, axiom, sorry.
-/
import Derived.Test.YtmebodjofcomlaaChecked
import GoSem.Claim
import GoSem.ClaimJoined
import GoSem.ClaimMapViews
import Derived.JoinedTies
import Derived.KernelRfl
namespace Go.Proofs.Ytmebodjofcomlaa
/- THE CELL 'sum', in the pinned program and in every row, IS THE sha256 OF THE DUMP (.gsa) THAT YtmebodjofcomlaaProg.lean LOADS. Nothing in Lean hashes anything: it is a label: what it is worth is what the hold of that sum in a sandbox is worth. -/
noncomputable def Try.pinned : Pinned := { name := "ytmebodjofcomlaa", sum := "efe07d27164717745a1c4456ad758b89043f4eecadf398b69b57ae63a4e1b474", checked := Try.checked }
namespace Rows
def none {H : Type} : Left H := { results := [], args := [] }

/-- 'comptorlaw09.EntryNext': WHATEVER THE INPUT: true; the input reads as it did. -/
def entryNextSpec : ChangeSpec := { name := "entryNext", fn := fun _ => fun
  | [d1, d2, d3] => { results := [.lit (.bool true)], args := [d1, d2, d3] }
  | _ => none }
def entryNextRow : OpenClaim := { program := "ytmebodjofcomlaa", sum := "efe07d27164717745a1c4456ad758b89043f4eecadf398b69b57ae63a4e1b474", func := "comptor/comptorlaw09.EntryNext", spec := "entryNext", apart := false }
def EntryNextSaid : Prop := entryNextRow.holds Try.pinned (OpenSpec.ofChange entryNextSpec)

/-- ITS FALSE NEIGHBOUR: 'it returns false'. Refute it at one input. -/
def entryNextWrong : ChangeSpec := { name := "entryNext", fn := fun _ => fun
  | [d1, d2, d3] => { results := [.lit (.bool false)], args := [d1, d2, d3] }
  | _ => none }
def EntryNextWrongFalsely : Prop := entryNextRow.holds Try.pinned (OpenSpec.ofChange entryNextWrong)

/-- 'comptorlaw05.HeadUnlike': WHATEVER THE INPUT: true; the input reads as it did. -/
def headUnlikeSpec : ChangeSpec := { name := "headUnlike", fn := fun _ => fun
  | [d1, d2, d3, d4] => { results := [.lit (.bool true)], args := [d1, d2, d3, d4] }
  | _ => none }
def headUnlikeRow : OpenClaim := { program := "ytmebodjofcomlaa", sum := "efe07d27164717745a1c4456ad758b89043f4eecadf398b69b57ae63a4e1b474", func := "comptor/comptorlaw05.HeadUnlike", spec := "headUnlike", inPlace := ["internal/bytealg.MakeNoZero"], apart := false }
def HeadUnlikeSaid : Prop := headUnlikeRow.holds Try.pinned (OpenSpec.ofChange headUnlikeSpec)

/-- ITS FALSE NEIGHBOUR: 'it returns false'. Refute it at one input. -/
def headUnlikeWrong : ChangeSpec := { name := "headUnlike", fn := fun _ => fun
  | [d1, d2, d3, d4] => { results := [.lit (.bool false)], args := [d1, d2, d3, d4] }
  | _ => none }
def HeadUnlikeWrongFalsely : Prop := headUnlikeRow.holds Try.pinned (OpenSpec.ofChange headUnlikeWrong)

/-- 'comptorlaw05.HeadPacks': WHATEVER THE INPUT: true; the input reads as it did. -/
def headPacksSpec : ChangeSpec := { name := "headPacks", fn := fun _ => fun
  | [d1, d2] => { results := [.lit (.bool true)], args := [d1, d2] }
  | _ => none }
def headPacksRow : OpenClaim := { program := "ytmebodjofcomlaa", sum := "efe07d27164717745a1c4456ad758b89043f4eecadf398b69b57ae63a4e1b474", func := "comptor/comptorlaw05.HeadPacks", spec := "headPacks", inPlace := ["internal/bytealg.MakeNoZero"], apart := false }
def HeadPacksSaid : Prop := headPacksRow.holds Try.pinned (OpenSpec.ofChange headPacksSpec)

/-- ITS FALSE NEIGHBOUR: 'it returns false'. Refute it at one input. -/
def headPacksWrong : ChangeSpec := { name := "headPacks", fn := fun _ => fun
  | [d1, d2] => { results := [.lit (.bool false)], args := [d1, d2] }
  | _ => none }
def HeadPacksWrongFalsely : Prop := headPacksRow.holds Try.pinned (OpenSpec.ofChange headPacksWrong)

/-- 'comptorlaw05.HeadTurns': WHATEVER THE INPUT: true; the input reads as it did. -/
def headTurnsSpec : ChangeSpec := { name := "headTurns", fn := fun _ => fun
  | [d1, d2, d3, d4] => { results := [.lit (.bool true)], args := [d1, d2, d3, d4] }
  | _ => none }
def headTurnsRow : OpenClaim := { program := "ytmebodjofcomlaa", sum := "efe07d27164717745a1c4456ad758b89043f4eecadf398b69b57ae63a4e1b474", func := "comptor/comptorlaw05.HeadTurns", spec := "headTurns", inPlace := ["internal/bytealg.MakeNoZero"], apart := false }
def HeadTurnsSaid : Prop := headTurnsRow.holds Try.pinned (OpenSpec.ofChange headTurnsSpec)

/-- ITS FALSE NEIGHBOUR: 'it returns false'. Refute it at one input. -/
def headTurnsWrong : ChangeSpec := { name := "headTurns", fn := fun _ => fun
  | [d1, d2, d3, d4] => { results := [.lit (.bool false)], args := [d1, d2, d3, d4] }
  | _ => none }
def HeadTurnsWrongFalsely : Prop := headTurnsRow.holds Try.pinned (OpenSpec.ofChange headTurnsWrong)

/-- 'comptorlaw09.EntryFollows': WHATEVER THE INPUT: true; the input reads as it did. -/
def entryFollowsSpec : ChangeSpec := { name := "entryFollows", fn := fun _ => fun
  | [d1, d2] => { results := [.lit (.bool true)], args := [d1, d2] }
  | _ => none }
def entryFollowsRow : OpenClaim := { program := "ytmebodjofcomlaa", sum := "efe07d27164717745a1c4456ad758b89043f4eecadf398b69b57ae63a4e1b474", func := "comptor/comptorlaw09.EntryFollows", spec := "entryFollows", inPlace := ["internal/bytealg.MakeNoZero"], apart := false }
def EntryFollowsSaid : Prop := entryFollowsRow.holds Try.pinned (OpenSpec.ofChange entryFollowsSpec)

/-- ITS FALSE NEIGHBOUR: 'it returns false'. Refute it at one input. -/
def entryFollowsWrong : ChangeSpec := { name := "entryFollows", fn := fun _ => fun
  | [d1, d2] => { results := [.lit (.bool false)], args := [d1, d2] }
  | _ => none }
def EntryFollowsWrongFalsely : Prop := entryFollowsRow.holds Try.pinned (OpenSpec.ofChange entryFollowsWrong)

/-- 'comptorlaw09.EntryReads': WHATEVER THE INPUT: true; the input reads as it did. -/
def entryReadsSpec : ChangeSpec := { name := "entryReads", fn := fun _ => fun
  | [d] => { results := [.lit (.bool true)], args := [d] }
  | _ => none }
def entryReadsRow : OpenClaim := { program := "ytmebodjofcomlaa", sum := "efe07d27164717745a1c4456ad758b89043f4eecadf398b69b57ae63a4e1b474", func := "comptor/comptorlaw09.EntryReads", spec := "entryReads", inPlace := ["internal/bytealg.MakeNoZero"], apart := false }
def EntryReadsSaid : Prop := entryReadsRow.holds Try.pinned (OpenSpec.ofChange entryReadsSpec)

/-- ITS FALSE NEIGHBOUR: 'it returns false'. Refute it at one input. -/
def entryReadsWrong : ChangeSpec := { name := "entryReads", fn := fun _ => fun
  | [d] => { results := [.lit (.bool false)], args := [d] }
  | _ => none }
def EntryReadsWrongFalsely : Prop := entryReadsRow.holds Try.pinned (OpenSpec.ofChange entryReadsWrong)

/-- 'comptorlaw09.EntryPacks': WHATEVER THE INPUT: true; the input reads as it did. -/
def entryPacksSpec : ChangeSpec := { name := "entryPacks", fn := fun _ => fun
  | [d] => { results := [.lit (.bool true)], args := [d] }
  | _ => none }
def entryPacksRow : OpenClaim := { program := "ytmebodjofcomlaa", sum := "efe07d27164717745a1c4456ad758b89043f4eecadf398b69b57ae63a4e1b474", func := "comptor/comptorlaw09.EntryPacks", spec := "entryPacks", inPlace := ["internal/bytealg.MakeNoZero"], apart := false }
def EntryPacksSaid : Prop := entryPacksRow.holds Try.pinned (OpenSpec.ofChange entryPacksSpec)

/-- ITS FALSE NEIGHBOUR: 'it returns false'. Refute it at one input. -/
def entryPacksWrong : ChangeSpec := { name := "entryPacks", fn := fun _ => fun
  | [d] => { results := [.lit (.bool false)], args := [d] }
  | _ => none }
def EntryPacksWrongFalsely : Prop := entryPacksRow.holds Try.pinned (OpenSpec.ofChange entryPacksWrong)

/-- 'comptorlaw09.EntryTurns': WHATEVER THE INPUT: true; the input reads as it did. -/
def entryTurnsSpec : ChangeSpec := { name := "entryTurns", fn := fun _ => fun
  | [d1, d2, d3] => { results := [.lit (.bool true)], args := [d1, d2, d3] }
  | _ => none }
def entryTurnsRow : OpenClaim := { program := "ytmebodjofcomlaa", sum := "efe07d27164717745a1c4456ad758b89043f4eecadf398b69b57ae63a4e1b474", func := "comptor/comptorlaw09.EntryTurns", spec := "entryTurns", inPlace := ["internal/bytealg.MakeNoZero"], apart := false }
def EntryTurnsSaid : Prop := entryTurnsRow.holds Try.pinned (OpenSpec.ofChange entryTurnsSpec)

/-- ITS FALSE NEIGHBOUR: 'it returns false'. Refute it at one input. -/
def entryTurnsWrong : ChangeSpec := { name := "entryTurns", fn := fun _ => fun
  | [d1, d2, d3] => { results := [.lit (.bool false)], args := [d1, d2, d3] }
  | _ => none }
def EntryTurnsWrongFalsely : Prop := entryTurnsRow.holds Try.pinned (OpenSpec.ofChange entryTurnsWrong)

/- THE SECOND FORM. 'bulk': how many values and letters a reading holds, each counted each time it is reached (what is shared counts as often as it is met; a slice's spare places count too). A statement '..UptoSaid' is the law's where the arguments, and the package variables that the reading takes, are together of bulk at most 1048576: NARROWER than '..Said'. Prove '..Said' where nothing that the law and all that it calls make is longer than what came in: it says more and counts as full. Else prove '..UptoSaid'. A law counts once. -/
mutual
def uptoBulk {H : Type} : DataW H → Nat
  | .lit (.string bytes) => bytes.length + 1
  | .lit _ => 1
  | .nil => 1
  | .ptr d => uptoBulk d + 1
  | .slice elems spare => uptoBulkAll elems + uptoBulkAll spare + 1
  | .agg parts => uptoBulkAll parts + 1
  | .iface _ d => uptoBulk d + 1
  | .map entries => uptoBulkEntries entries + 1
  | .held _ => 1
def uptoBulkAll {H : Type} : List (DataW H) → Nat
  | [] => 0
  | d :: r => uptoBulk d + uptoBulkAll r
def uptoBulkEntries {H : Type} : List (Lit × DataW H) → Nat
  | [] => 0
  | x :: r => uptoBulkEntry x + uptoBulkEntries r
def uptoBulkEntry {H : Type} : Lit × DataW H → Nat
  | (.string bytes, d) => bytes.length + uptoBulk d + 1
  | (_, d) => uptoBulk d + 1
 end
def uptoSmall : (H : Type) → List (DataW H) → Bool := fun _ ds => decide (uptoBulkAll ds ≤ 1048576)
def OpenSpec.upto (s : _root_.Go.ChangeSpec) : _root_.Go.OpenSpec := { _root_.Go.OpenSpec.ofChange s with cond := some uptoSmall }

/-- 'comptorlaw09.EntryNext', WHERE WHAT IT READS IS OF BULK AT MOST 1048576: true; the input reads as it did. -/
def entryNextUptoRow : OpenClaim := { program := "ytmebodjofcomlaa", sum := "efe07d27164717745a1c4456ad758b89043f4eecadf398b69b57ae63a4e1b474", func := "comptor/comptorlaw09.EntryNext", spec := "entryNext", apart := false, narrowed := true }
def EntryNextUptoSaid : Prop := entryNextUptoRow.holds Try.pinned (OpenSpec.upto entryNextSpec)

/-- 'comptorlaw05.HeadUnlike', WHERE WHAT IT READS IS OF BULK AT MOST 1048576: true; the input reads as it did. -/
def headUnlikeUptoRow : OpenClaim := { program := "ytmebodjofcomlaa", sum := "efe07d27164717745a1c4456ad758b89043f4eecadf398b69b57ae63a4e1b474", func := "comptor/comptorlaw05.HeadUnlike", spec := "headUnlike", inPlace := ["internal/bytealg.MakeNoZero"], apart := false, narrowed := true }
def HeadUnlikeUptoSaid : Prop := headUnlikeUptoRow.holds Try.pinned (OpenSpec.upto headUnlikeSpec)

/-- 'comptorlaw05.HeadPacks', WHERE WHAT IT READS IS OF BULK AT MOST 1048576: true; the input reads as it did. -/
def headPacksUptoRow : OpenClaim := { program := "ytmebodjofcomlaa", sum := "efe07d27164717745a1c4456ad758b89043f4eecadf398b69b57ae63a4e1b474", func := "comptor/comptorlaw05.HeadPacks", spec := "headPacks", inPlace := ["internal/bytealg.MakeNoZero"], apart := false, narrowed := true }
def HeadPacksUptoSaid : Prop := headPacksUptoRow.holds Try.pinned (OpenSpec.upto headPacksSpec)

/-- 'comptorlaw05.HeadTurns', WHERE WHAT IT READS IS OF BULK AT MOST 1048576: true; the input reads as it did. -/
def headTurnsUptoRow : OpenClaim := { program := "ytmebodjofcomlaa", sum := "efe07d27164717745a1c4456ad758b89043f4eecadf398b69b57ae63a4e1b474", func := "comptor/comptorlaw05.HeadTurns", spec := "headTurns", inPlace := ["internal/bytealg.MakeNoZero"], apart := false, narrowed := true }
def HeadTurnsUptoSaid : Prop := headTurnsUptoRow.holds Try.pinned (OpenSpec.upto headTurnsSpec)

/-- 'comptorlaw09.EntryFollows', WHERE WHAT IT READS IS OF BULK AT MOST 1048576: true; the input reads as it did. -/
def entryFollowsUptoRow : OpenClaim := { program := "ytmebodjofcomlaa", sum := "efe07d27164717745a1c4456ad758b89043f4eecadf398b69b57ae63a4e1b474", func := "comptor/comptorlaw09.EntryFollows", spec := "entryFollows", inPlace := ["internal/bytealg.MakeNoZero"], apart := false, narrowed := true }
def EntryFollowsUptoSaid : Prop := entryFollowsUptoRow.holds Try.pinned (OpenSpec.upto entryFollowsSpec)

/-- 'comptorlaw09.EntryReads', WHERE WHAT IT READS IS OF BULK AT MOST 1048576: true; the input reads as it did. -/
def entryReadsUptoRow : OpenClaim := { program := "ytmebodjofcomlaa", sum := "efe07d27164717745a1c4456ad758b89043f4eecadf398b69b57ae63a4e1b474", func := "comptor/comptorlaw09.EntryReads", spec := "entryReads", inPlace := ["internal/bytealg.MakeNoZero"], apart := false, narrowed := true }
def EntryReadsUptoSaid : Prop := entryReadsUptoRow.holds Try.pinned (OpenSpec.upto entryReadsSpec)

/-- 'comptorlaw09.EntryPacks', WHERE WHAT IT READS IS OF BULK AT MOST 1048576: true; the input reads as it did. -/
def entryPacksUptoRow : OpenClaim := { program := "ytmebodjofcomlaa", sum := "efe07d27164717745a1c4456ad758b89043f4eecadf398b69b57ae63a4e1b474", func := "comptor/comptorlaw09.EntryPacks", spec := "entryPacks", inPlace := ["internal/bytealg.MakeNoZero"], apart := false, narrowed := true }
def EntryPacksUptoSaid : Prop := entryPacksUptoRow.holds Try.pinned (OpenSpec.upto entryPacksSpec)

/-- 'comptorlaw09.EntryTurns', WHERE WHAT IT READS IS OF BULK AT MOST 1048576: true; the input reads as it did. -/
def entryTurnsUptoRow : OpenClaim := { program := "ytmebodjofcomlaa", sum := "efe07d27164717745a1c4456ad758b89043f4eecadf398b69b57ae63a4e1b474", func := "comptor/comptorlaw09.EntryTurns", spec := "entryTurns", inPlace := ["internal/bytealg.MakeNoZero"], apart := false, narrowed := true }
def EntryTurnsUptoSaid : Prop := entryTurnsUptoRow.holds Try.pinned (OpenSpec.upto entryTurnsSpec)

end Rows
end Go.Proofs.Ytmebodjofcomlaa
