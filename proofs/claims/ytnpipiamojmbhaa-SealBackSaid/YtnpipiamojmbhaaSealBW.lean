import Derived.Test.YtnpipiamojmbhaaSealW
namespace Go.Proofs.Ytnpipiamojmbhaa
open Go.RowKit
set_option linter.unusedVariables false in
theorem walkSealBack (a0 : ByteArray) (a1 : ByteArray) (b0 : a0.size ≤ 140737488351232) (b1 : a1.size ≤ 140737488351232) (w : World) :
    Calls Try.prog 8 #[.string a0, .string a1] w fun e w' => e = .returned (.bool true) ∧ Below w.heap.size w w' := by
  exact back_core a0 a1 w b0
end Go.Proofs.Ytnpipiamojmbhaa
