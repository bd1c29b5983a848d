import Derived.Test.YtmebodjofcomlaaEW
namespace Go.Proofs.Ytmebodjofcomlaa
open Go.RowKit
set_option linter.unusedVariables false in
theorem walkEntryPacks (a0_0 : Int) (a0_1 : Int) (a0_2 : Int) (a0_3 : Int) (a0_4 : Int) (a0_5 : Int) (a0_6 : Int) (a0_7 : Int) (a0_8 : ByteArray) (b0_0 : -9223372036854775808 ≤ a0_0 ∧ a0_0 ≤ 9223372036854775807) (b0_1 : -9223372036854775808 ≤ a0_1 ∧ a0_1 ≤ 9223372036854775807) (b0_2 : -9223372036854775808 ≤ a0_2 ∧ a0_2 ≤ 9223372036854775807) (b0_3 : 0 ≤ a0_3 ∧ a0_3 ≤ 18446744073709551615) (b0_4 : -9223372036854775808 ≤ a0_4 ∧ a0_4 ≤ 9223372036854775807) (b0_5 : -9223372036854775808 ≤ a0_5 ∧ a0_5 ≤ 9223372036854775807) (b0_6 : -9223372036854775808 ≤ a0_6 ∧ a0_6 ≤ 9223372036854775807) (b0_7 : -9223372036854775808 ≤ a0_7 ∧ a0_7 ≤ 9223372036854775807) (w : World) :
    Calls Try.prog 9 #[.agg #[.int .i64 a0_0, .int .i64 a0_1, .int .i64 a0_2, .int .u64 a0_3, .int .i64 a0_4, .int .i64 a0_5, .int .i64 a0_6, .int .i64 a0_7, .string a0_8]] w fun e w' => e = .returned (.bool true) ∧ Below w.heap.size w w' := by
  exact epacks_core _ _ _ _ _ _ _ _ _ w b0_3
end Go.Proofs.Ytmebodjofcomlaa
