import Derived.Test.YtecaahcmebdglaaPDu
namespace Go.Proofs.Ytecaahcmebdglaa
open Go.RowKit
set_option linter.unusedVariables false in
theorem walkPipeDue (w : World) (a0 : Int) (a1 : Int) (a2 : Int) (p3 : Option Addr) (cap3 : Nat) (l3 : List (List Value)) (a4 : Int) (b0 : -9223372036854775808 ≤ a0 ∧ a0 ≤ 9223372036854775807) (b1 : -9223372036854775808 ≤ a1 ∧ a1 ≤ 9223372036854775807) (b2 : -9223372036854775808 ≤ a2 ∧ a2 ≤ 9223372036854775807) (h3 : RowsAt w p3 3 l3) (c3 : l3.length ≤ cap3) (m3 : cap3 ≤ maxLen) (t3 : ∀ r ∈ l3, ∃ (c0 : Int) (c1 : Int) (c2 : Int), r = [.int .i64 c0, .int .i64 c1, .int .i64 c2] ∧ (-9223372036854775808 ≤ c0 ∧ c0 ≤ 9223372036854775807) ∧ (-9223372036854775808 ≤ c1 ∧ c1 ≤ 9223372036854775807) ∧ (-9223372036854775808 ≤ c2 ∧ c2 ≤ 9223372036854775807)) (b4 : -9223372036854775808 ≤ a4 ∧ a4 ≤ 9223372036854775807) :
    Calls Try.prog 11 #[.int .i64 a0, .int .i64 a1, .int .i64 a2, .slice p3 l3.length cap3, .int .i64 a4] w fun e w' => e = .returned (.bool true) ∧ Below w.heap.size w w' := by
  by_cases h : (a0 = 3 ∨ a0 = 5) ∧ (1 ≤ a1 ∧ a1 ≤ a0) ∧ 0 ≤ a2 ∧ a2 ≤ 72057594037927935 ∧ a2 ≤ a2 ∧ a2 - a2 ≤ 16
  · obtain ⟨cN, rfl⟩ : ∃ cN : Nat, a0 = cN := ⟨a0.toNat, by omega⟩
    exact pdue_core w a1 a2 a4 p3 cap3 l3 cN (by omega) (by omega) h.2.2.1 h.2.2.2.1 b4 h3 c3 m3 t3
  · have HN := Lib.hid (fun w => new_no a0 a1 a2 a2 w b2 h)
    clear h
    go_enter Try.func11, Try.ntmps11
    go_wp2_with fail
    refine (awake19_any _).mono ?_
    rintro e w1 ⟨rfl, hb1⟩
    go_wp2_with fail
    refine (HN.out _).mono ?_
    rintro e w2 ⟨rfl, rfl⟩
    go_wp2_with fail
    go_ret
    exact ⟨rfl, hb1⟩
end Go.Proofs.Ytecaahcmebdglaa
