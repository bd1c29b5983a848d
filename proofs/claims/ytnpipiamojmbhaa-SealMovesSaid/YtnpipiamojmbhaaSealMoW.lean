import Derived.Test.YtnpipiamojmbhaaSealM
namespace Go.Proofs.Ytnpipiamojmbhaa
open Go.RowKit
set_option linter.unusedVariables false in
theorem walkSealMoves (a0 : ByteArray) (a1 : ByteArray) (a2 : ByteArray) (b0 : a0.size ≤ 140737488351232) (b1 : a1.size ≤ 140737488351232) (b2 : a2.size ≤ 140737488351232) (w : World) :
    Calls Try.prog 12 #[.string a0, .string a1, .string a2] w fun e w' => e = .returned (.bool true) ∧ Below w.heap.size w w' := by
  exact moves_core a0 a1 a2 w b0
end Go.Proofs.Ytnpipiamojmbhaa
