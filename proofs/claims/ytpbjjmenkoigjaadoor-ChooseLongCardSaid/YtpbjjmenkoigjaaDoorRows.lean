/-
  NARROWER THAN 'FOR EVERY INPUT', by the rows' own cells (each row's printed sentence says how): ChooseChains: laid · ChooseKeeps: laid · ChooseTurns: laid · ChooseWaits: laid · ChooseLong: laid.
  DERIVED. THE GIVEN ROWS OF THIS SEAT. 5 by the template 'for every input the law returns true; each argument reads behind the call as it read before'; 0 by the template 'total and deterministic' (their statements: YtpbjjmenkoigjaaDoorTotals.lean).
  GIVEN WITH THE SEED: the statements are not yours to turn. If you find one false, say at which input.
  Laid BY PROGRAM, IN A SANDBOX (cutbox-rows.mjs): the forced cells as the released guide's own fill.sh prints them over the translation 63a1a0906fdd717f… (all of the seat's roots in one cut). By AI agents, Wed Nov 11 2026. No macro, syntax, notation, axiom, sorry.
-/
import Derived.Test.YtpbjjmenkoigjaaDoorChecked
import GoSem.Claim
import GoSem.ClaimJoined
import GoSem.ClaimMapViews
import Derived.JoinedTies
import Derived.KernelRfl
namespace Go.Proofs.YtpbjjmenkoigjaaDoor
/- THE CELL 'sum', in the pinned program and in every row, IS THE sha256 OF THE DUMP (.gsa) THAT YtpbjjmenkoigjaaDoorProg.lean LOADS. Nothing in Lean hashes anything: it is a label: what it is worth is what the hold of that sum in a sandbox is worth. -/
noncomputable def Tryd.pinned : Pinned := { name := "ytpbjjmenkoigjaadoor", sum := "63a1a0906fdd717f615d65ff32b1bec683a0c4d75bdb7df4d17875a31b1eb7b6", checked := Tryd.checked }
namespace Rows
def none {H : Type} : Left H := { results := [], args := [] }

/- WHAT THE LISTED PACKAGE-LEVEL VARIABLES READ AS WHEN THE CALL BEGINS. Each datum BY PROGRAM (the guide's laid-datum.mjs) off the statement by which the dump's own 'gosem.cut.vars' lays the variable. In a bare row this is a premise. The card (YtpbjjmenkoigjaaDoorCards.lean) ties it to the program's text. -/
def laid_comptor_msg_all {H : Type} : DataW H := .agg [.lit (.string [119, 115, 114, 112, 66]), .lit (.string [118, 99, 69]), .lit (.string [118, 111]), .lit (.string [118, 111, 119, 115, 114, 66]), .lit (.string [118, 99]), .lit (.string [118]), .lit (.string [118, 108, 99, 67, 73]), .lit (.string [118, 99, 67, 76]), .lit (.string [118]), .lit (.string [111]), .lit (.string [69]), .lit (.string []), .lit (.string [67, 122, 83]), .lit (.string [67, 105]), .lit (.string [67, 105, 66]), .lit (.string [118, 111, 119, 115, 114])]

/-- 'comptorlaw18.ChooseChains': WHATEVER THE INPUT: true; the input reads as it did. -/
def chooseChainsSpec : ChangeSpec := { name := "chooseChains", fn := fun _ => fun
  | [d1, d2] => { results := [.lit (.bool true)], args := [d1, d2] }
  | _ => none }
def chooseChainsRow : OpenClaim := { program := "ytpbjjmenkoigjaadoor", sum := "63a1a0906fdd717f615d65ff32b1bec683a0c4d75bdb7df4d17875a31b1eb7b6", func := "comptor/comptorlaw18.ChooseChains", spec := "chooseChains", inPlace := ["internal/bytealg.MakeNoZero", "internal/bytealg.IndexByteString", "internal/bytealg.IndexString"], unfollowed := true, recurses := true, named := ["comptor/msg.all", "internal/bytealg.MaxLen"], apart := false, laid := [("comptor/msg.all", laid_comptor_msg_all)] }
def ChooseChainsSaid : Prop := chooseChainsRow.holds Tryd.pinned (OpenSpec.ofChange chooseChainsSpec)

/-- ITS FALSE NEIGHBOUR: 'it returns false'. Refute it at one input. -/
def chooseChainsWrong : ChangeSpec := { name := "chooseChains", fn := fun _ => fun
  | [d1, d2] => { results := [.lit (.bool false)], args := [d1, d2] }
  | _ => none }
def ChooseChainsWrongFalsely : Prop := chooseChainsRow.holds Tryd.pinned (OpenSpec.ofChange chooseChainsWrong)

/-- 'comptorlaw18.ChooseKeeps': WHATEVER THE INPUT: true; the input reads as it did. -/
def chooseKeepsSpec : ChangeSpec := { name := "chooseKeeps", fn := fun _ => fun
  | [d1, d2, d3] => { results := [.lit (.bool true)], args := [d1, d2, d3] }
  | _ => none }
def chooseKeepsRow : OpenClaim := { program := "ytpbjjmenkoigjaadoor", sum := "63a1a0906fdd717f615d65ff32b1bec683a0c4d75bdb7df4d17875a31b1eb7b6", func := "comptor/comptorlaw18.ChooseKeeps", spec := "chooseKeeps", inPlace := ["internal/bytealg.MakeNoZero", "internal/bytealg.IndexByteString", "internal/bytealg.IndexString"], unfollowed := true, recurses := true, named := ["comptor/msg.all", "internal/bytealg.MaxLen"], apart := false, laid := [("comptor/msg.all", laid_comptor_msg_all)] }
def ChooseKeepsSaid : Prop := chooseKeepsRow.holds Tryd.pinned (OpenSpec.ofChange chooseKeepsSpec)

/-- ITS FALSE NEIGHBOUR: 'it returns false'. Refute it at one input. -/
def chooseKeepsWrong : ChangeSpec := { name := "chooseKeeps", fn := fun _ => fun
  | [d1, d2, d3] => { results := [.lit (.bool false)], args := [d1, d2, d3] }
  | _ => none }
def ChooseKeepsWrongFalsely : Prop := chooseKeepsRow.holds Tryd.pinned (OpenSpec.ofChange chooseKeepsWrong)

/-- 'comptorlaw18.ChooseTurns': WHATEVER THE INPUT: true; the input reads as it did. -/
def chooseTurnsSpec : ChangeSpec := { name := "chooseTurns", fn := fun _ => fun
  | [d1, d2, d3] => { results := [.lit (.bool true)], args := [d1, d2, d3] }
  | _ => none }
def chooseTurnsRow : OpenClaim := { program := "ytpbjjmenkoigjaadoor", sum := "63a1a0906fdd717f615d65ff32b1bec683a0c4d75bdb7df4d17875a31b1eb7b6", func := "comptor/comptorlaw18.ChooseTurns", spec := "chooseTurns", inPlace := ["internal/bytealg.MakeNoZero", "internal/bytealg.IndexByteString", "internal/bytealg.IndexString"], unfollowed := true, recurses := true, named := ["comptor/msg.all", "internal/bytealg.MaxLen"], apart := false, laid := [("comptor/msg.all", laid_comptor_msg_all)] }
def ChooseTurnsSaid : Prop := chooseTurnsRow.holds Tryd.pinned (OpenSpec.ofChange chooseTurnsSpec)

/-- ITS FALSE NEIGHBOUR: 'it returns false'. Refute it at one input. -/
def chooseTurnsWrong : ChangeSpec := { name := "chooseTurns", fn := fun _ => fun
  | [d1, d2, d3] => { results := [.lit (.bool false)], args := [d1, d2, d3] }
  | _ => none }
def ChooseTurnsWrongFalsely : Prop := chooseTurnsRow.holds Tryd.pinned (OpenSpec.ofChange chooseTurnsWrong)

/-- 'comptorlaw18.ChooseWaits': WHATEVER THE INPUT: true; the input reads as it did. -/
def chooseWaitsSpec : ChangeSpec := { name := "chooseWaits", fn := fun _ => fun
  | [d1, d2] => { results := [.lit (.bool true)], args := [d1, d2] }
  | _ => none }
def chooseWaitsRow : OpenClaim := { program := "ytpbjjmenkoigjaadoor", sum := "63a1a0906fdd717f615d65ff32b1bec683a0c4d75bdb7df4d17875a31b1eb7b6", func := "comptor/comptorlaw18.ChooseWaits", spec := "chooseWaits", inPlace := ["internal/bytealg.MakeNoZero", "internal/bytealg.IndexByteString", "internal/bytealg.IndexString"], unfollowed := true, recurses := true, named := ["comptor/msg.all", "internal/bytealg.MaxLen"], apart := false, laid := [("comptor/msg.all", laid_comptor_msg_all)] }
def ChooseWaitsSaid : Prop := chooseWaitsRow.holds Tryd.pinned (OpenSpec.ofChange chooseWaitsSpec)

/-- ITS FALSE NEIGHBOUR: 'it returns false'. Refute it at one input. -/
def chooseWaitsWrong : ChangeSpec := { name := "chooseWaits", fn := fun _ => fun
  | [d1, d2] => { results := [.lit (.bool false)], args := [d1, d2] }
  | _ => none }
def ChooseWaitsWrongFalsely : Prop := chooseWaitsRow.holds Tryd.pinned (OpenSpec.ofChange chooseWaitsWrong)

/-- 'comptorlaw18.ChooseLong': WHATEVER THE INPUT: true; the input reads as it did. -/
def chooseLongSpec : ChangeSpec := { name := "chooseLong", fn := fun _ => fun
  | [d1, d2, d3, d4] => { results := [.lit (.bool true)], args := [d1, d2, d3, d4] }
  | _ => none }
def chooseLongRow : OpenClaim := { program := "ytpbjjmenkoigjaadoor", sum := "63a1a0906fdd717f615d65ff32b1bec683a0c4d75bdb7df4d17875a31b1eb7b6", func := "comptor/comptorlaw18.ChooseLong", spec := "chooseLong", inPlace := ["internal/bytealg.MakeNoZero", "internal/bytealg.IndexByteString", "internal/bytealg.IndexString"], unfollowed := true, recurses := true, named := ["comptor/msg.all", "internal/bytealg.MaxLen"], apart := false, laid := [("comptor/msg.all", laid_comptor_msg_all)] }
def ChooseLongSaid : Prop := chooseLongRow.holds Tryd.pinned (OpenSpec.ofChange chooseLongSpec)

/-- ITS FALSE NEIGHBOUR: 'it returns false'. Refute it at one input. -/
def chooseLongWrong : ChangeSpec := { name := "chooseLong", fn := fun _ => fun
  | [d1, d2, d3, d4] => { results := [.lit (.bool false)], args := [d1, d2, d3, d4] }
  | _ => none }
def ChooseLongWrongFalsely : Prop := chooseLongRow.holds Tryd.pinned (OpenSpec.ofChange chooseLongWrong)

/- THE SECOND FORM. 'bulk': how many values and letters a reading holds, each counted each time it is reached (what is shared counts as often as it is met; a slice's spare places count too). A statement '..UptoSaid' is the law's where the arguments, and the package variables that the reading takes, are together of bulk at most 1048576: NARROWER than '..Said'. Prove '..Said' where nothing that the law and all that it calls make is longer than what came in: it says more and counts as full. Else prove '..UptoSaid'. A law counts once. -/
mutual
def uptoBulk {H : Type} : DataW H → Nat
  | .lit (.string bytes) => bytes.length + 1
  | .lit _ => 1
  | .nil => 1
  | .ptr d => uptoBulk d + 1
  | .slice elems spare => uptoBulkAll elems + uptoBulkAll spare + 1
  | .agg parts => uptoBulkAll parts + 1
  | .iface _ d => uptoBulk d + 1
  | .map entries => uptoBulkEntries entries + 1
  | .held _ => 1
def uptoBulkAll {H : Type} : List (DataW H) → Nat
  | [] => 0
  | d :: r => uptoBulk d + uptoBulkAll r
def uptoBulkEntries {H : Type} : List (Lit × DataW H) → Nat
  | [] => 0
  | x :: r => uptoBulkEntry x + uptoBulkEntries r
def uptoBulkEntry {H : Type} : Lit × DataW H → Nat
  | (.string bytes, d) => bytes.length + uptoBulk d + 1
  | (_, d) => uptoBulk d + 1
 end
def uptoSmall : (H : Type) → List (DataW H) → Bool := fun _ ds => decide (uptoBulkAll ds ≤ 1048576)
def OpenSpec.upto (s : _root_.Go.ChangeSpec) : _root_.Go.OpenSpec := { _root_.Go.OpenSpec.ofChange s with cond := some uptoSmall }

/-- 'comptorlaw18.ChooseChains', WHERE WHAT IT READS IS OF BULK AT MOST 1048576: true; the input reads as it did. -/
def chooseChainsUptoRow : OpenClaim := { program := "ytpbjjmenkoigjaadoor", sum := "63a1a0906fdd717f615d65ff32b1bec683a0c4d75bdb7df4d17875a31b1eb7b6", func := "comptor/comptorlaw18.ChooseChains", spec := "chooseChains", inPlace := ["internal/bytealg.MakeNoZero", "internal/bytealg.IndexByteString", "internal/bytealg.IndexString"], unfollowed := true, recurses := true, named := ["comptor/msg.all", "internal/bytealg.MaxLen"], apart := false, laid := [("comptor/msg.all", laid_comptor_msg_all)], narrowed := true }
def ChooseChainsUptoSaid : Prop := chooseChainsUptoRow.holds Tryd.pinned (OpenSpec.upto chooseChainsSpec)

/-- 'comptorlaw18.ChooseKeeps', WHERE WHAT IT READS IS OF BULK AT MOST 1048576: true; the input reads as it did. -/
def chooseKeepsUptoRow : OpenClaim := { program := "ytpbjjmenkoigjaadoor", sum := "63a1a0906fdd717f615d65ff32b1bec683a0c4d75bdb7df4d17875a31b1eb7b6", func := "comptor/comptorlaw18.ChooseKeeps", spec := "chooseKeeps", inPlace := ["internal/bytealg.MakeNoZero", "internal/bytealg.IndexByteString", "internal/bytealg.IndexString"], unfollowed := true, recurses := true, named := ["comptor/msg.all", "internal/bytealg.MaxLen"], apart := false, laid := [("comptor/msg.all", laid_comptor_msg_all)], narrowed := true }
def ChooseKeepsUptoSaid : Prop := chooseKeepsUptoRow.holds Tryd.pinned (OpenSpec.upto chooseKeepsSpec)

/-- 'comptorlaw18.ChooseTurns', WHERE WHAT IT READS IS OF BULK AT MOST 1048576: true; the input reads as it did. -/
def chooseTurnsUptoRow : OpenClaim := { program := "ytpbjjmenkoigjaadoor", sum := "63a1a0906fdd717f615d65ff32b1bec683a0c4d75bdb7df4d17875a31b1eb7b6", func := "comptor/comptorlaw18.ChooseTurns", spec := "chooseTurns", inPlace := ["internal/bytealg.MakeNoZero", "internal/bytealg.IndexByteString", "internal/bytealg.IndexString"], unfollowed := true, recurses := true, named := ["comptor/msg.all", "internal/bytealg.MaxLen"], apart := false, laid := [("comptor/msg.all", laid_comptor_msg_all)], narrowed := true }
def ChooseTurnsUptoSaid : Prop := chooseTurnsUptoRow.holds Tryd.pinned (OpenSpec.upto chooseTurnsSpec)

/-- 'comptorlaw18.ChooseWaits', WHERE WHAT IT READS IS OF BULK AT MOST 1048576: true; the input reads as it did. -/
def chooseWaitsUptoRow : OpenClaim := { program := "ytpbjjmenkoigjaadoor", sum := "63a1a0906fdd717f615d65ff32b1bec683a0c4d75bdb7df4d17875a31b1eb7b6", func := "comptor/comptorlaw18.ChooseWaits", spec := "chooseWaits", inPlace := ["internal/bytealg.MakeNoZero", "internal/bytealg.IndexByteString", "internal/bytealg.IndexString"], unfollowed := true, recurses := true, named := ["comptor/msg.all", "internal/bytealg.MaxLen"], apart := false, laid := [("comptor/msg.all", laid_comptor_msg_all)], narrowed := true }
def ChooseWaitsUptoSaid : Prop := chooseWaitsUptoRow.holds Tryd.pinned (OpenSpec.upto chooseWaitsSpec)

/-- 'comptorlaw18.ChooseLong', WHERE WHAT IT READS IS OF BULK AT MOST 1048576: true; the input reads as it did. -/
def chooseLongUptoRow : OpenClaim := { program := "ytpbjjmenkoigjaadoor", sum := "63a1a0906fdd717f615d65ff32b1bec683a0c4d75bdb7df4d17875a31b1eb7b6", func := "comptor/comptorlaw18.ChooseLong", spec := "chooseLong", inPlace := ["internal/bytealg.MakeNoZero", "internal/bytealg.IndexByteString", "internal/bytealg.IndexString"], unfollowed := true, recurses := true, named := ["comptor/msg.all", "internal/bytealg.MaxLen"], apart := false, laid := [("comptor/msg.all", laid_comptor_msg_all)], narrowed := true }
def ChooseLongUptoSaid : Prop := chooseLongUptoRow.holds Tryd.pinned (OpenSpec.upto chooseLongSpec)

end Rows
end Go.Proofs.YtpbjjmenkoigjaaDoor
