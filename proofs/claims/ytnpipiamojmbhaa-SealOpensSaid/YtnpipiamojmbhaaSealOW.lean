import Derived.Test.YtnpipiamojmbhaaSealW
namespace Go.Proofs.Ytnpipiamojmbhaa
open Go.RowKit
set_option linter.unusedVariables false in
theorem walkSealOpens (a0 : ByteArray) (b0 : a0.size ≤ 140737488351232) (w : World) :
    Calls Try.prog 9 #[.string a0] w fun e w' => e = .returned (.bool true) ∧ Below w.heap.size w w' := by
  exact opens_core a0 w
end Go.Proofs.Ytnpipiamojmbhaa
