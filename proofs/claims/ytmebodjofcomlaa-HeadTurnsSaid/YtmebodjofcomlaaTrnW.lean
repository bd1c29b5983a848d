import Derived.Test.YtmebodjofcomlaaTrn
namespace Go.Proofs.Ytmebodjofcomlaa
open Go.RowKit
set_option linter.unusedVariables false in
theorem walkHeadTurns (a0_0 : Int) (a0_1 : Int) (a0_2 : Int) (a0_3 : Int) (a0_4 : Int) (a0_5 : Int) (a0_6 : Int) (a0_7 : Int) (a0_8 : Int) (a0_9 : Int) (a0_10 : Int) (a0_11 : Int) (a1 : ByteArray) (a2 : Int) (a3 : Int) (b0_0 : -9223372036854775808 ≤ a0_0 ∧ a0_0 ≤ 9223372036854775807) (b0_1 : -9223372036854775808 ≤ a0_1 ∧ a0_1 ≤ 9223372036854775807) (b0_2 : -9223372036854775808 ≤ a0_2 ∧ a0_2 ≤ 9223372036854775807) (b0_3 : -9223372036854775808 ≤ a0_3 ∧ a0_3 ≤ 9223372036854775807) (b0_4 : -9223372036854775808 ≤ a0_4 ∧ a0_4 ≤ 9223372036854775807) (b0_5 : -9223372036854775808 ≤ a0_5 ∧ a0_5 ≤ 9223372036854775807) (b0_6 : -9223372036854775808 ≤ a0_6 ∧ a0_6 ≤ 9223372036854775807) (b0_7 : -9223372036854775808 ≤ a0_7 ∧ a0_7 ≤ 9223372036854775807) (b0_8 : -9223372036854775808 ≤ a0_8 ∧ a0_8 ≤ 9223372036854775807) (b0_9 : -9223372036854775808 ≤ a0_9 ∧ a0_9 ≤ 9223372036854775807) (b0_10 : -9223372036854775808 ≤ a0_10 ∧ a0_10 ≤ 9223372036854775807) (b0_11 : 0 ≤ a0_11 ∧ a0_11 ≤ 18446744073709551615) (b1 : a1.size ≤ 140737488351232) (b2 : -9223372036854775808 ≤ a2 ∧ a2 ≤ 9223372036854775807) (b3 : 0 ≤ a3 ∧ a3 ≤ 255) (w : World) :
    Calls Try.prog 6 #[.agg #[.int .i64 a0_0, .int .i64 a0_1, .int .i64 a0_2, .int .i64 a0_3, .int .i64 a0_4, .int .i64 a0_5, .int .i64 a0_6, .int .i64 a0_7, .int .i64 a0_8, .int .i64 a0_9, .int .i64 a0_10, .int .u64 a0_11], .string a1, .int .i64 a2, .int .u8 a3] w fun e w' => e = .returned (.bool true) ∧ Below w.heap.size w w' := by
  by_cases hl : 5000 < a1.size
  · exact turns_long _ _ _ _ _ _ _ _ _ _ _ _ a1 a2 a3 w hl
  · obtain ⟨m, rfl⟩ : ∃ m : Nat, a3 = m := ⟨a3.toNat, by omega⟩
    exact turns_core _ _ _ _ _ _ _ _ _ _ _ _ a1 a2 m w (by omega) b0_11 b2 (by omega)
end Go.Proofs.Ytmebodjofcomlaa
