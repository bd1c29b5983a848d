import Derived.Test.YtnldjddmchfcoaaMOn
namespace Go.Proofs.Ytnldjddmchfcoaa
open Go.RowKit
set_option linter.unusedVariables false in
theorem walkMailOnce (w : World) (a0 : Int) (p1 : Option Addr) (cap1 : Nat) (l1 : List (List Value)) (b0 : -9223372036854775808 ≤ a0 ∧ a0 ≤ 9223372036854775807) (h1 : RowsAt w p1 4 l1) (c1 : l1.length ≤ cap1) (m1 : cap1 ≤ maxLen) (t1 : ∀ r ∈ l1, ∃ (c0 c1 c2 : Int) (c3 : ByteArray), r = [.int .i64 c0, .int .i64 c1, .int .i64 c2, .string c3] ∧ (-9223372036854775808 ≤ c0 ∧ c0 ≤ 9223372036854775807) ∧ (-9223372036854775808 ≤ c1 ∧ c1 ≤ 9223372036854775807) ∧ (-9223372036854775808 ≤ c2 ∧ c2 ≤ 9223372036854775807)) :
    Calls Try.prog 5 #[.int .i64 a0, .slice p1 l1.length cap1] w fun e w' => e = .returned (.bool true) ∧ Below w.heap.size w w' := by
  by_cases h : 1 ≤ a0 ∧ a0 ≤ 4096
  · obtain ⟨cap, rfl⟩ : ∃ cap : Nat, a0 = cap := ⟨a0.toNat, by omega⟩
    exact monce_core w cap p1 cap1 l1 (by omega) h1 c1 m1 t1
  · have HN := Lib.hid (fun w => new_bx_no a0 w h)
    by_cases q1 : a0 < 1
    · clear h
      go_enter Try.func5, Try.ntmps5
      go_wp2_with fail
      refine (awake20_any _).mono ?_
      rintro e w1 ⟨rfl, hb1⟩
      go_wp2_with fail
      refine (HN.out _).mono ?_
      rintro e w2 ⟨rfl, rfl⟩
      go_wp2_with fail
      go_ret
      exact ⟨rfl, hb1⟩
    · have q2 : 4096 < a0 := by omega
      clear h
      go_enter Try.func5, Try.ntmps5
      go_wp2_with fail
      refine (awake20_any _).mono ?_
      rintro e w1 ⟨rfl, hb1⟩
      go_wp2_with fail
      refine (HN.out _).mono ?_
      rintro e w2 ⟨rfl, rfl⟩
      go_wp2_with fail
      go_ret
      exact ⟨rfl, hb1⟩
end Go.Proofs.Ytnldjddmchfcoaa
