import Derived.Test.YtnpipiamojmbhaaSealT
namespace Go.Proofs.Ytnpipiamojmbhaa
open Go.RowKit
set_option linter.unusedVariables false in
theorem walkSealTurns (a0 : ByteArray) (a1 : ByteArray) (a2 : Int) (a3 : Int) (b0 : a0.size ≤ 140737488351232) (b1 : a1.size ≤ 140737488351232) (b2 : -9223372036854775808 ≤ a2 ∧ a2 ≤ 9223372036854775807) (b3 : 0 ≤ a3 ∧ a3 ≤ 255) (w : World) :
    Calls Try.prog 11 #[.string a0, .string a1, .int .i64 a2, .int .u8 a3] w fun e w' => e = .returned (.bool true) ∧ Below w.heap.size w w' := by
  obtain ⟨m, rfl⟩ : ∃ m : Nat, a3 = m := ⟨a3.toNat, by omega⟩
  exact turns_core a0 a1 a2 m w b0 b2 (by omega)
end Go.Proofs.Ytnpipiamojmbhaa
