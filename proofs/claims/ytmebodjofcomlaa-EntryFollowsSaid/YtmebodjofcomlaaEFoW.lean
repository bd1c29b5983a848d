import Derived.Test.YtmebodjofcomlaaEFo
namespace Go.Proofs.Ytmebodjofcomlaa
open Go.RowKit
set_option linter.unusedVariables false in
theorem walkEntryFollows (a0_0 : Int) (a0_1 : Int) (a0_2 : Int) (a1_0 : Int) (a1_1 : Int) (a1_2 : Int) (a1_3 : Int) (a1_4 : Int) (a1_5 : Int) (a1_6 : Int) (a1_7 : Int) (a1_8 : ByteArray) (b0_0 : -9223372036854775808 ≤ a0_0 ∧ a0_0 ≤ 9223372036854775807) (b0_1 : -9223372036854775808 ≤ a0_1 ∧ a0_1 ≤ 9223372036854775807) (b0_2 : 0 ≤ a0_2 ∧ a0_2 ≤ 18446744073709551615) (b1_0 : -9223372036854775808 ≤ a1_0 ∧ a1_0 ≤ 9223372036854775807) (b1_1 : -9223372036854775808 ≤ a1_1 ∧ a1_1 ≤ 9223372036854775807) (b1_2 : -9223372036854775808 ≤ a1_2 ∧ a1_2 ≤ 9223372036854775807) (b1_3 : 0 ≤ a1_3 ∧ a1_3 ≤ 18446744073709551615) (b1_4 : -9223372036854775808 ≤ a1_4 ∧ a1_4 ≤ 9223372036854775807) (b1_5 : -9223372036854775808 ≤ a1_5 ∧ a1_5 ≤ 9223372036854775807) (b1_6 : -9223372036854775808 ≤ a1_6 ∧ a1_6 ≤ 9223372036854775807) (b1_7 : -9223372036854775808 ≤ a1_7 ∧ a1_7 ≤ 9223372036854775807) (w : World) :
    Calls Try.prog 7 #[.agg #[.int .i64 a0_0, .int .i64 a0_1, .int .u64 a0_2], .agg #[.int .i64 a1_0, .int .i64 a1_1, .int .i64 a1_2, .int .u64 a1_3, .int .i64 a1_4, .int .i64 a1_5, .int .i64 a1_6, .int .i64 a1_7, .string a1_8]] w fun e w' => e = .returned (.bool true) ∧ Below w.heap.size w w' := by
  exact efollows_core _ _ _ _ _ _ _ _ _ _ _ _ b1_1 b1_3 w
end Go.Proofs.Ytmebodjofcomlaa
