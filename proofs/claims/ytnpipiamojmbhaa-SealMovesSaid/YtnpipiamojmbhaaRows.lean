/-
  No cell of these rows narrows 'for every input' (looked for: loops, veiled, ifaces, maps, wideKeys, modest, calm, conditions, laid).
  DERIVED. THE GIVEN ROWS OF THIS SEAT. 10 by the template 'for every input the law returns true; each argument reads behind the call as it read before'; 0 by the template 'total and deterministic' (their statements: YtnpipiamojmbhaaTotals.lean).
  GIVEN WITH THE SEED: the statements are not yours to turn. If you find one false, say at which input.
  Laid BY PROGRAM, IN A SANDBOX (cutbox-rows.mjs): the forced cells as the released guide's own fill.sh prints them over the translation 57061e96bb7d73e5… (all of the seat's roots in one cut). By AI agents, Wed Nov 11 2026. No macro, syntax, notation, axiom, sorry.
-/
import Derived.Test.YtnpipiamojmbhaaChecked
import GoSem.Claim
import GoSem.ClaimJoined
import GoSem.ClaimMapViews
import Derived.JoinedTies
import Derived.KernelRfl
namespace Go.Proofs.Ytnpipiamojmbhaa
/- THE CELL 'sum', in the pinned program and in every row, IS THE sha256 OF THE DUMP (.gsa) THAT YtnpipiamojmbhaaProg.lean LOADS. Nothing in Lean hashes anything: it is a label: what it is worth is what the hold of that sum in a sandbox is worth. -/
noncomputable def Try.pinned : Pinned := { name := "ytnpipiamojmbhaa", sum := "57061e96bb7d73e56fa9bfbe33e2fe2e1d778c5aba128f56c52a5bcfdd215909", checked := Try.checked }
namespace Rows
def none {H : Type} : Left H := { results := [], args := [] }

/-- 'comptorlaw02.CrcSums': WHATEVER THE INPUT: true; the input reads as it did. -/
def crcSumsSpec : ChangeSpec := { name := "crcSums", fn := fun _ => fun
  | [d1, d2] => { results := [.lit (.bool true)], args := [d1, d2] }
  | _ => none }
def crcSumsRow : OpenClaim := { program := "ytnpipiamojmbhaa", sum := "57061e96bb7d73e56fa9bfbe33e2fe2e1d778c5aba128f56c52a5bcfdd215909", func := "comptor/comptorlaw02.CrcSums", spec := "crcSums", apart := false }
def CrcSumsSaid : Prop := crcSumsRow.holds Try.pinned (OpenSpec.ofChange crcSumsSpec)

/-- ITS FALSE NEIGHBOUR: 'it returns false'. Refute it at one input. -/
def crcSumsWrong : ChangeSpec := { name := "crcSums", fn := fun _ => fun
  | [d1, d2] => { results := [.lit (.bool false)], args := [d1, d2] }
  | _ => none }
def CrcSumsWrongFalsely : Prop := crcSumsRow.holds Try.pinned (OpenSpec.ofChange crcSumsWrong)

/-- 'comptorlaw02.CrcJoins': WHATEVER THE INPUT: true; the input reads as it did. -/
def crcJoinsSpec : ChangeSpec := { name := "crcJoins", fn := fun _ => fun
  | [d1, d2] => { results := [.lit (.bool true)], args := [d1, d2] }
  | _ => none }
def crcJoinsRow : OpenClaim := { program := "ytnpipiamojmbhaa", sum := "57061e96bb7d73e56fa9bfbe33e2fe2e1d778c5aba128f56c52a5bcfdd215909", func := "comptor/comptorlaw02.CrcJoins", spec := "crcJoins", apart := false }
def CrcJoinsSaid : Prop := crcJoinsRow.holds Try.pinned (OpenSpec.ofChange crcJoinsSpec)

/-- ITS FALSE NEIGHBOUR: 'it returns false'. Refute it at one input. -/
def crcJoinsWrong : ChangeSpec := { name := "crcJoins", fn := fun _ => fun
  | [d1, d2] => { results := [.lit (.bool false)], args := [d1, d2] }
  | _ => none }
def CrcJoinsWrongFalsely : Prop := crcJoinsRow.holds Try.pinned (OpenSpec.ofChange crcJoinsWrong)

/-- 'comptorlaw02.CrcTells': WHATEVER THE INPUT: true; the input reads as it did. -/
def crcTellsSpec : ChangeSpec := { name := "crcTells", fn := fun _ => fun
  | [d1, d2, d3] => { results := [.lit (.bool true)], args := [d1, d2, d3] }
  | _ => none }
def crcTellsRow : OpenClaim := { program := "ytnpipiamojmbhaa", sum := "57061e96bb7d73e56fa9bfbe33e2fe2e1d778c5aba128f56c52a5bcfdd215909", func := "comptor/comptorlaw02.CrcTells", spec := "crcTells", apart := false }
def CrcTellsSaid : Prop := crcTellsRow.holds Try.pinned (OpenSpec.ofChange crcTellsSpec)

/-- ITS FALSE NEIGHBOUR: 'it returns false'. Refute it at one input. -/
def crcTellsWrong : ChangeSpec := { name := "crcTells", fn := fun _ => fun
  | [d1, d2, d3] => { results := [.lit (.bool false)], args := [d1, d2, d3] }
  | _ => none }
def CrcTellsWrongFalsely : Prop := crcTellsRow.holds Try.pinned (OpenSpec.ofChange crcTellsWrong)

/-- 'comptorlaw02.CrcChains': WHATEVER THE INPUT: true; the input reads as it did. -/
def crcChainsSpec : ChangeSpec := { name := "crcChains", fn := fun _ => fun
  | [d1, d2] => { results := [.lit (.bool true)], args := [d1, d2] }
  | _ => none }
def crcChainsRow : OpenClaim := { program := "ytnpipiamojmbhaa", sum := "57061e96bb7d73e56fa9bfbe33e2fe2e1d778c5aba128f56c52a5bcfdd215909", func := "comptor/comptorlaw02.CrcChains", spec := "crcChains", apart := false }
def CrcChainsSaid : Prop := crcChainsRow.holds Try.pinned (OpenSpec.ofChange crcChainsSpec)

/-- ITS FALSE NEIGHBOUR: 'it returns false'. Refute it at one input. -/
def crcChainsWrong : ChangeSpec := { name := "crcChains", fn := fun _ => fun
  | [d1, d2] => { results := [.lit (.bool false)], args := [d1, d2] }
  | _ => none }
def CrcChainsWrongFalsely : Prop := crcChainsRow.holds Try.pinned (OpenSpec.ofChange crcChainsWrong)

/-- 'comptorlaw02.CrcLinks': WHATEVER THE INPUT: true; the input reads as it did. -/
def crcLinksSpec : ChangeSpec := { name := "crcLinks", fn := fun _ => fun
  | [d1, d2, d3, d4] => { results := [.lit (.bool true)], args := [d1, d2, d3, d4] }
  | _ => none }
def crcLinksRow : OpenClaim := { program := "ytnpipiamojmbhaa", sum := "57061e96bb7d73e56fa9bfbe33e2fe2e1d778c5aba128f56c52a5bcfdd215909", func := "comptor/comptorlaw02.CrcLinks", spec := "crcLinks", apart := false }
def CrcLinksSaid : Prop := crcLinksRow.holds Try.pinned (OpenSpec.ofChange crcLinksSpec)

/-- ITS FALSE NEIGHBOUR: 'it returns false'. Refute it at one input. -/
def crcLinksWrong : ChangeSpec := { name := "crcLinks", fn := fun _ => fun
  | [d1, d2, d3, d4] => { results := [.lit (.bool false)], args := [d1, d2, d3, d4] }
  | _ => none }
def CrcLinksWrongFalsely : Prop := crcLinksRow.holds Try.pinned (OpenSpec.ofChange crcLinksWrong)

/-- 'comptorlaw04.SealBack': WHATEVER THE INPUT: true; the input reads as it did. -/
def sealBackSpec : ChangeSpec := { name := "sealBack", fn := fun _ => fun
  | [d1, d2] => { results := [.lit (.bool true)], args := [d1, d2] }
  | _ => none }
def sealBackRow : OpenClaim := { program := "ytnpipiamojmbhaa", sum := "57061e96bb7d73e56fa9bfbe33e2fe2e1d778c5aba128f56c52a5bcfdd215909", func := "comptor/comptorlaw04.SealBack", spec := "sealBack", inPlace := ["internal/bytealg.MakeNoZero"], apart := false }
def SealBackSaid : Prop := sealBackRow.holds Try.pinned (OpenSpec.ofChange sealBackSpec)

/-- ITS FALSE NEIGHBOUR: 'it returns false'. Refute it at one input. -/
def sealBackWrong : ChangeSpec := { name := "sealBack", fn := fun _ => fun
  | [d1, d2] => { results := [.lit (.bool false)], args := [d1, d2] }
  | _ => none }
def SealBackWrongFalsely : Prop := sealBackRow.holds Try.pinned (OpenSpec.ofChange sealBackWrong)

/-- 'comptorlaw04.SealOpens': WHATEVER THE INPUT: true; the input reads as it did. -/
def sealOpensSpec : ChangeSpec := { name := "sealOpens", fn := fun _ => fun
  | [d] => { results := [.lit (.bool true)], args := [d] }
  | _ => none }
def sealOpensRow : OpenClaim := { program := "ytnpipiamojmbhaa", sum := "57061e96bb7d73e56fa9bfbe33e2fe2e1d778c5aba128f56c52a5bcfdd215909", func := "comptor/comptorlaw04.SealOpens", spec := "sealOpens", inPlace := ["internal/bytealg.MakeNoZero"], apart := false }
def SealOpensSaid : Prop := sealOpensRow.holds Try.pinned (OpenSpec.ofChange sealOpensSpec)

/-- ITS FALSE NEIGHBOUR: 'it returns false'. Refute it at one input. -/
def sealOpensWrong : ChangeSpec := { name := "sealOpens", fn := fun _ => fun
  | [d] => { results := [.lit (.bool false)], args := [d] }
  | _ => none }
def SealOpensWrongFalsely : Prop := sealOpensRow.holds Try.pinned (OpenSpec.ofChange sealOpensWrong)

/-- 'comptorlaw04.SealTears': WHATEVER THE INPUT: true; the input reads as it did. -/
def sealTearsSpec : ChangeSpec := { name := "sealTears", fn := fun _ => fun
  | [d1, d2, d3] => { results := [.lit (.bool true)], args := [d1, d2, d3] }
  | _ => none }
def sealTearsRow : OpenClaim := { program := "ytnpipiamojmbhaa", sum := "57061e96bb7d73e56fa9bfbe33e2fe2e1d778c5aba128f56c52a5bcfdd215909", func := "comptor/comptorlaw04.SealTears", spec := "sealTears", inPlace := ["internal/bytealg.MakeNoZero"], apart := false }
def SealTearsSaid : Prop := sealTearsRow.holds Try.pinned (OpenSpec.ofChange sealTearsSpec)

/-- ITS FALSE NEIGHBOUR: 'it returns false'. Refute it at one input. -/
def sealTearsWrong : ChangeSpec := { name := "sealTears", fn := fun _ => fun
  | [d1, d2, d3] => { results := [.lit (.bool false)], args := [d1, d2, d3] }
  | _ => none }
def SealTearsWrongFalsely : Prop := sealTearsRow.holds Try.pinned (OpenSpec.ofChange sealTearsWrong)

/-- 'comptorlaw04.SealTurns': WHATEVER THE INPUT: true; the input reads as it did. -/
def sealTurnsSpec : ChangeSpec := { name := "sealTurns", fn := fun _ => fun
  | [d1, d2, d3, d4] => { results := [.lit (.bool true)], args := [d1, d2, d3, d4] }
  | _ => none }
def sealTurnsRow : OpenClaim := { program := "ytnpipiamojmbhaa", sum := "57061e96bb7d73e56fa9bfbe33e2fe2e1d778c5aba128f56c52a5bcfdd215909", func := "comptor/comptorlaw04.SealTurns", spec := "sealTurns", inPlace := ["internal/bytealg.MakeNoZero"], apart := false }
def SealTurnsSaid : Prop := sealTurnsRow.holds Try.pinned (OpenSpec.ofChange sealTurnsSpec)

/-- ITS FALSE NEIGHBOUR: 'it returns false'. Refute it at one input. -/
def sealTurnsWrong : ChangeSpec := { name := "sealTurns", fn := fun _ => fun
  | [d1, d2, d3, d4] => { results := [.lit (.bool false)], args := [d1, d2, d3, d4] }
  | _ => none }
def SealTurnsWrongFalsely : Prop := sealTurnsRow.holds Try.pinned (OpenSpec.ofChange sealTurnsWrong)

/-- 'comptorlaw04.SealMoves': WHATEVER THE INPUT: true; the input reads as it did. -/
def sealMovesSpec : ChangeSpec := { name := "sealMoves", fn := fun _ => fun
  | [d1, d2, d3] => { results := [.lit (.bool true)], args := [d1, d2, d3] }
  | _ => none }
def sealMovesRow : OpenClaim := { program := "ytnpipiamojmbhaa", sum := "57061e96bb7d73e56fa9bfbe33e2fe2e1d778c5aba128f56c52a5bcfdd215909", func := "comptor/comptorlaw04.SealMoves", spec := "sealMoves", inPlace := ["internal/bytealg.MakeNoZero"], apart := false }
def SealMovesSaid : Prop := sealMovesRow.holds Try.pinned (OpenSpec.ofChange sealMovesSpec)

/-- ITS FALSE NEIGHBOUR: 'it returns false'. Refute it at one input. -/
def sealMovesWrong : ChangeSpec := { name := "sealMoves", fn := fun _ => fun
  | [d1, d2, d3] => { results := [.lit (.bool false)], args := [d1, d2, d3] }
  | _ => none }
def SealMovesWrongFalsely : Prop := sealMovesRow.holds Try.pinned (OpenSpec.ofChange sealMovesWrong)

/- THE SECOND FORM. 'bulk': how many values and letters a reading holds, each counted each time it is reached (what is shared counts as often as it is met; a slice's spare places count too). A statement '..UptoSaid' is the law's where the arguments, and the package variables that the reading takes, are together of bulk at most 1048576: NARROWER than '..Said'. Prove '..Said' where nothing that the law and all that it calls make is longer than what came in: it says more and counts as full. Else prove '..UptoSaid'. A law counts once. -/
mutual
def uptoBulk {H : Type} : DataW H → Nat
  | .lit (.string bytes) => bytes.length + 1
  | .lit _ => 1
  | .nil => 1
  | .ptr d => uptoBulk d + 1
  | .slice elems spare => uptoBulkAll elems + uptoBulkAll spare + 1
  | .agg parts => uptoBulkAll parts + 1
  | .iface _ d => uptoBulk d + 1
  | .map entries => uptoBulkEntries entries + 1
  | .held _ => 1
def uptoBulkAll {H : Type} : List (DataW H) → Nat
  | [] => 0
  | d :: r => uptoBulk d + uptoBulkAll r
def uptoBulkEntries {H : Type} : List (Lit × DataW H) → Nat
  | [] => 0
  | x :: r => uptoBulkEntry x + uptoBulkEntries r
def uptoBulkEntry {H : Type} : Lit × DataW H → Nat
  | (.string bytes, d) => bytes.length + uptoBulk d + 1
  | (_, d) => uptoBulk d + 1
 end
def uptoSmall : (H : Type) → List (DataW H) → Bool := fun _ ds => decide (uptoBulkAll ds ≤ 1048576)
def OpenSpec.upto (s : _root_.Go.ChangeSpec) : _root_.Go.OpenSpec := { _root_.Go.OpenSpec.ofChange s with cond := some uptoSmall }

/-- 'comptorlaw02.CrcSums', WHERE WHAT IT READS IS OF BULK AT MOST 1048576: true; the input reads as it did. -/
def crcSumsUptoRow : OpenClaim := { program := "ytnpipiamojmbhaa", sum := "57061e96bb7d73e56fa9bfbe33e2fe2e1d778c5aba128f56c52a5bcfdd215909", func := "comptor/comptorlaw02.CrcSums", spec := "crcSums", apart := false, narrowed := true }
def CrcSumsUptoSaid : Prop := crcSumsUptoRow.holds Try.pinned (OpenSpec.upto crcSumsSpec)

/-- 'comptorlaw02.CrcJoins', WHERE WHAT IT READS IS OF BULK AT MOST 1048576: true; the input reads as it did. -/
def crcJoinsUptoRow : OpenClaim := { program := "ytnpipiamojmbhaa", sum := "57061e96bb7d73e56fa9bfbe33e2fe2e1d778c5aba128f56c52a5bcfdd215909", func := "comptor/comptorlaw02.CrcJoins", spec := "crcJoins", apart := false, narrowed := true }
def CrcJoinsUptoSaid : Prop := crcJoinsUptoRow.holds Try.pinned (OpenSpec.upto crcJoinsSpec)

/-- 'comptorlaw02.CrcTells', WHERE WHAT IT READS IS OF BULK AT MOST 1048576: true; the input reads as it did. -/
def crcTellsUptoRow : OpenClaim := { program := "ytnpipiamojmbhaa", sum := "57061e96bb7d73e56fa9bfbe33e2fe2e1d778c5aba128f56c52a5bcfdd215909", func := "comptor/comptorlaw02.CrcTells", spec := "crcTells", apart := false, narrowed := true }
def CrcTellsUptoSaid : Prop := crcTellsUptoRow.holds Try.pinned (OpenSpec.upto crcTellsSpec)

/-- 'comptorlaw02.CrcChains', WHERE WHAT IT READS IS OF BULK AT MOST 1048576: true; the input reads as it did. -/
def crcChainsUptoRow : OpenClaim := { program := "ytnpipiamojmbhaa", sum := "57061e96bb7d73e56fa9bfbe33e2fe2e1d778c5aba128f56c52a5bcfdd215909", func := "comptor/comptorlaw02.CrcChains", spec := "crcChains", apart := false, narrowed := true }
def CrcChainsUptoSaid : Prop := crcChainsUptoRow.holds Try.pinned (OpenSpec.upto crcChainsSpec)

/-- 'comptorlaw02.CrcLinks', WHERE WHAT IT READS IS OF BULK AT MOST 1048576: true; the input reads as it did. -/
def crcLinksUptoRow : OpenClaim := { program := "ytnpipiamojmbhaa", sum := "57061e96bb7d73e56fa9bfbe33e2fe2e1d778c5aba128f56c52a5bcfdd215909", func := "comptor/comptorlaw02.CrcLinks", spec := "crcLinks", apart := false, narrowed := true }
def CrcLinksUptoSaid : Prop := crcLinksUptoRow.holds Try.pinned (OpenSpec.upto crcLinksSpec)

/-- 'comptorlaw04.SealBack', WHERE WHAT IT READS IS OF BULK AT MOST 1048576: true; the input reads as it did. -/
def sealBackUptoRow : OpenClaim := { program := "ytnpipiamojmbhaa", sum := "57061e96bb7d73e56fa9bfbe33e2fe2e1d778c5aba128f56c52a5bcfdd215909", func := "comptor/comptorlaw04.SealBack", spec := "sealBack", inPlace := ["internal/bytealg.MakeNoZero"], apart := false, narrowed := true }
def SealBackUptoSaid : Prop := sealBackUptoRow.holds Try.pinned (OpenSpec.upto sealBackSpec)

/-- 'comptorlaw04.SealOpens', WHERE WHAT IT READS IS OF BULK AT MOST 1048576: true; the input reads as it did. -/
def sealOpensUptoRow : OpenClaim := { program := "ytnpipiamojmbhaa", sum := "57061e96bb7d73e56fa9bfbe33e2fe2e1d778c5aba128f56c52a5bcfdd215909", func := "comptor/comptorlaw04.SealOpens", spec := "sealOpens", inPlace := ["internal/bytealg.MakeNoZero"], apart := false, narrowed := true }
def SealOpensUptoSaid : Prop := sealOpensUptoRow.holds Try.pinned (OpenSpec.upto sealOpensSpec)

/-- 'comptorlaw04.SealTears', WHERE WHAT IT READS IS OF BULK AT MOST 1048576: true; the input reads as it did. -/
def sealTearsUptoRow : OpenClaim := { program := "ytnpipiamojmbhaa", sum := "57061e96bb7d73e56fa9bfbe33e2fe2e1d778c5aba128f56c52a5bcfdd215909", func := "comptor/comptorlaw04.SealTears", spec := "sealTears", inPlace := ["internal/bytealg.MakeNoZero"], apart := false, narrowed := true }
def SealTearsUptoSaid : Prop := sealTearsUptoRow.holds Try.pinned (OpenSpec.upto sealTearsSpec)

/-- 'comptorlaw04.SealTurns', WHERE WHAT IT READS IS OF BULK AT MOST 1048576: true; the input reads as it did. -/
def sealTurnsUptoRow : OpenClaim := { program := "ytnpipiamojmbhaa", sum := "57061e96bb7d73e56fa9bfbe33e2fe2e1d778c5aba128f56c52a5bcfdd215909", func := "comptor/comptorlaw04.SealTurns", spec := "sealTurns", inPlace := ["internal/bytealg.MakeNoZero"], apart := false, narrowed := true }
def SealTurnsUptoSaid : Prop := sealTurnsUptoRow.holds Try.pinned (OpenSpec.upto sealTurnsSpec)

/-- 'comptorlaw04.SealMoves', WHERE WHAT IT READS IS OF BULK AT MOST 1048576: true; the input reads as it did. -/
def sealMovesUptoRow : OpenClaim := { program := "ytnpipiamojmbhaa", sum := "57061e96bb7d73e56fa9bfbe33e2fe2e1d778c5aba128f56c52a5bcfdd215909", func := "comptor/comptorlaw04.SealMoves", spec := "sealMoves", inPlace := ["internal/bytealg.MakeNoZero"], apart := false, narrowed := true }
def SealMovesUptoSaid : Prop := sealMovesUptoRow.holds Try.pinned (OpenSpec.upto sealMovesSpec)

end Rows
end Go.Proofs.Ytnpipiamojmbhaa
