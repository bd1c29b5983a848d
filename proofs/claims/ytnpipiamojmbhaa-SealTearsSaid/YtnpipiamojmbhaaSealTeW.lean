import Derived.Test.YtnpipiamojmbhaaSealZ
namespace Go.Proofs.Ytnpipiamojmbhaa
open Go.RowKit
set_option linter.unusedVariables false in
theorem walkSealTears (a0 : ByteArray) (a1 : ByteArray) (a2 : Int) (b0 : a0.size ≤ 140737488351232) (b1 : a1.size ≤ 140737488351232) (b2 : -9223372036854775808 ≤ a2 ∧ a2 ≤ 9223372036854775807) (w : World) :
    Calls Try.prog 10 #[.string a0, .string a1, .int .i64 a2] w fun e w' => e = .returned (.bool true) ∧ Below w.heap.size w w' := by
  exact tears_core a0 a1 a2 w b0 b2
end Go.Proofs.Ytnpipiamojmbhaa
