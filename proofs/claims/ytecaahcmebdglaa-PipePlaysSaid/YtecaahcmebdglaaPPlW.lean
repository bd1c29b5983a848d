import Derived.Test.YtecaahcmebdglaaPPl
namespace Go.Proofs.Ytecaahcmebdglaa
open Go.RowKit
set_option linter.unusedVariables false in
set_option maxRecDepth 100000 in
theorem walkPipePlays (w : World) (a0 : Int) (a1 : Int) (a2 : Int) (a3 : Int) (p4 : Option Addr) (cap4 : Nat) (l4 : List (List Value)) (b0 : -9223372036854775808 ≤ a0 ∧ a0 ≤ 9223372036854775807) (b1 : -9223372036854775808 ≤ a1 ∧ a1 ≤ 9223372036854775807) (b2 : -9223372036854775808 ≤ a2 ∧ a2 ≤ 9223372036854775807) (b3 : -9223372036854775808 ≤ a3 ∧ a3 ≤ 9223372036854775807) (h4 : RowsAt w p4 3 l4) (c4 : l4.length ≤ cap4) (m4 : cap4 ≤ maxLen) (t4 : ∀ r ∈ l4, ∃ (c0 : Int) (c1 : Int) (c2 : Int), r = [.int .i64 c0, .int .i64 c1, .int .i64 c2] ∧ (-9223372036854775808 ≤ c0 ∧ c0 ≤ 9223372036854775807) ∧ (-9223372036854775808 ≤ c1 ∧ c1 ≤ 9223372036854775807) ∧ (-9223372036854775808 ≤ c2 ∧ c2 ≤ 9223372036854775807)) :
    Calls Try.prog 12 #[.int .i64 a0, .int .i64 a1, .int .i64 a2, .int .i64 a3, .slice p4 l4.length cap4] w fun e w' => e = .returned (.bool true) ∧ Below w.heap.size w w' := by
  by_cases h : (a0 = 3 ∨ a0 = 5) ∧ (1 ≤ a1 ∧ a1 ≤ a0) ∧ 0 ≤ a2 ∧ a3 ≤ 72057594037927935 ∧ a2 ≤ a3 ∧ a3 - a2 ≤ 16
  · exact plays_core w a0 a1 a2 a3 p4 cap4 l4 a0.toNat (by omega) h.1 h.2.1 h.2.2.1 h.2.2.2.1 h.2.2.2.2.1 h.2.2.2.2.2 h4 c4 m4 t4
  · have HN := Lib.hid (fun w => new_no a0 a1 a2 a3 w b3 h)
    have HR := Lib.hid (fun w => refnew_no a0 a1 a2 a3 w b3 h)
    clear h
    go_enter Try.func12, Try.ntmps12
    go_wp2_with fail
    refine (awake19_any _).mono ?_
    rintro e w1 ⟨rfl, hb1⟩
    go_wp2_with fail
    refine (HN.out _).mono ?_
    rintro e w2 ⟨rfl, rfl⟩
    go_wp2_with fail
    refine (HR.out _).mono ?_
    rintro e w2 ⟨rfl, rfl⟩
    go_wp2_with fail
    go_ret
    exact ⟨rfl, hb1⟩
end Go.Proofs.Ytecaahcmebdglaa
