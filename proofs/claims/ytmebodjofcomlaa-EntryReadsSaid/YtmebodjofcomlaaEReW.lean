import Derived.Test.YtmebodjofcomlaaEW
namespace Go.Proofs.Ytmebodjofcomlaa
open Go.RowKit
set_option linter.unusedVariables false in
theorem walkEntryReads (a0 : ByteArray) (b0 : a0.size ≤ 140737488351232) (w : World) :
    Calls Try.prog 8 #[.string a0] w fun e w' => e = .returned (.bool true) ∧ Below w.heap.size w w' := by
  exact ereads_core _ w b0
end Go.Proofs.Ytmebodjofcomlaa
