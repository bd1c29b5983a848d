import Derived.Test.YtecaahcmebdglaaPipV
namespace Go.Proofs.Ytecaahcmebdglaa
open Go.RowKit
set_option linter.unusedVariables false in
theorem walkPipeNil (a0_0 : Int) (a0_1 : Int) (a0_2 : Int) (b0_0 : -9223372036854775808 ≤ a0_0 ∧ a0_0 ≤ 9223372036854775807) (b0_1 : -9223372036854775808 ≤ a0_1 ∧ a0_1 ≤ 9223372036854775807) (b0_2 : -9223372036854775808 ≤ a0_2 ∧ a0_2 ≤ 9223372036854775807) (w : World) :
    Calls Try.prog 13 #[.agg #[.int .i64 a0_0, .int .i64 a0_1, .int .i64 a0_2]] w fun e w' => e = .returned (.bool true) ∧ Below w.heap.size w w' := by
  go_enter Try.func13, Try.ntmps13
  go_wp2_with fail
  refine (awake19_any _).mono ?_
  have HR := Lib.hid (show Row (w.alloc (.cells #[.int .i64 a0_0, .int .i64 a0_1, .int .i64 a0_2] 45)) w.heap.size #[.int .i64 a0_0, .int .i64 a0_1, .int .i64 a0_2] ∧ Below w.heap.size w (w.alloc (.cells #[.int .i64 a0_0, .int .i64 a0_1, .int .i64 a0_2] 45)) from ⟨Row.new w _ _ _ rfl, (Below.refl _ _).alloc (Nat.le_refl _) _⟩)
  rintro e w1 ⟨rfl, hb1⟩
  have HR1 := Lib.hid (show Row w1 w.heap.size #[.int .i64 a0_0, .int .i64 a0_1, .int .i64 a0_2] ∧ Below w.heap.size w w1 from ⟨HR.out.1.below hb1 HR.out.1.1, HR.out.2.trans (hb1.mono HR.out.2.size)⟩)
  clear HR hb1
  have r1 := HR1.out.1.2 1 _ rfl
  have r2 := HR1.out.1.2 2 _ rfl
  have hlt := HR1.out.1.1
  go_wp2_with (first | (go_at_call 36; refine (add_nil _).mono ?_; rintro e w' ⟨rfl, rfl⟩) | (go_at_call 37; refine (kept_nil _ _ _).mono ?_; rintro e w' ⟨rfl, rfl⟩) | (go_at_call 38; refine (commit_nil _).mono ?_; rintro e w' ⟨rfl, rfl⟩) | (go_at_call 39; refine (head_nil _).mono ?_; rintro e w' ⟨rfl, rfl⟩) | (go_at_call 40; refine (due_nil _ _).mono ?_; rintro e w' ⟨rfl, rfl⟩) | (go_at_call 44; refine (room_nil _).mono ?_; rintro e w' ⟨rfl, rfl⟩))
  go_ret
  exact ⟨rfl, HR1.out.2⟩
end Go.Proofs.Ytecaahcmebdglaa
